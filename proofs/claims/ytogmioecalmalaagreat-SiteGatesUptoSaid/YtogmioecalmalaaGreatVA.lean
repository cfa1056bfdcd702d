/- An evaluator of closed runs, and that a call does as it tells (first part). No condition. -/
import Derived.Test.YtogmioecalmalaaGreatK10
import Derived.Laws.IdiomCopy
import Derived.Deep.AppendSrc
import Derived.Laws.BytesString
import Derived.MapKept
import Derived.Lib.ConvBytes
namespace Go.Proofs.YtogmioecalmalaaGreat
namespace Fw
set_option linter.unusedVariables false
set_option linter.unusedSimpArgs false
set_option linter.unusedSectionVars false
set_option linter.unusedSectionVars false
open Go.RowKit
noncomputable section

/-- a value: one that names no block of the run's own, or a place in one -/
inductive AV where
  | v (x : Value)
  | ptr (b off : Nat)
  | sl (b off len cap : Nat)
  | slo (b off len z : Nat)
  | es (b off n z : Nat)
  | map (b : Nat)
  | fn (f : Fn) (first caps : List AV)
  | ifc (t : TypeId) (x : AV)
  | yl
  | agg (cs : List AV)
  | tup (vs : List AV)
  deriving Inhabited
/-- a block -/
inductive AO where
  | cells (cs : List AV) (e : TypeId)
  | map (es : List (AV × AV × Nat)) (clock : Nat)
  | miter (m : Option Nat) (since : Nat) (seen : List Nat) (last : Nat)
  | siter (s : ByteArray) (pos : Nat)
  | dfr
  deriving Inhabited

inductive Tr (α : Type) where
  | lf
  | nd (l : Tr α) (x : Option α) (r : Tr α)
namespace Tr
variable {α : Type}
/-- what stands under a number (written with the recursors: the kernel reckons it) -/
def get (t : Tr α) : Nat → Option α :=
  @Tr.rec α (fun _ => Nat → Option α) (fun _ => none)
    (fun _ x _ gl gr n => @Bool.rec (fun _ => Option α) (@Bool.rec (fun _ => Option α) (gr (n / 2 - 1)) (gl (n / 2)) (Nat.beq (n % 2) 1)) x (Nat.beq n 0)) t
/-- a tree of one thing -/
def one (v : Option α) (f : Nat) : Nat → Tr α :=
  @Nat.rec (fun _ => Nat → Tr α) (fun _ => .lf)
    (fun _ ih n => @Bool.rec (fun _ => Tr α) (@Bool.rec (fun _ => Tr α) (.nd .lf none (ih (n / 2 - 1))) (.nd (ih (n / 2)) none .lf) (Nat.beq (n % 2) 1)) (.nd .lf v .lf) (Nat.beq n 0)) f
def set (t : Tr α) (n : Nat) (v : Option α) : Tr α :=
  @Tr.rec α (fun _ => Nat → Tr α) (fun n => one v (n + 1) n)
    (fun l x r sl sr n => @Bool.rec (fun _ => Tr α) (@Bool.rec (fun _ => Tr α) (.nd l x (sr (n / 2 - 1))) (.nd (sl (n / 2)) x r) (Nat.beq (n % 2) 1)) (.nd l v r) (Nat.beq n 0)) t n
end Tr

def bd {α β : Type} (x : Option α) (f : α → Option β) : Option β := @Option.rec α (fun _ => Option β) none f x
def ck {α : Type} (c : Bool) (x : Option α) : Option α := @Bool.rec (fun _ => Option α) none x c
/-- a run that asks nothing of the world -/
def prun {α : Type} (P : Program) : Sem α → Option α
  | .pure a => some a
  | .program k => prun P (k P)
  | .mark _ k => prun P k
  | .choose q k => bif q.forced then prun P (k 0) else none
  | _ => none

def oneA : AV → Bool
  | .v x => x.oneCell'
  | .agg _ | .tup _ => false
  | _ => true
/-- a value's cells -/
def celA : AV → Option (List AV)
  | .agg cs => ck (cs.all oneA) (some cs)
  | a => ck (oneA a) (some [a])
def ofV : Value → AV
  | .agg cs => .agg (cs.toList.map .v)
  | x => .v x
/-- back to a value, where no block is named -/
def toV : AV → Option Value
  | .v x => some x
  | .agg cs => bd (cs.foldr (fun a r => match a, r with | .v x, some l => some (x :: l) | _, _ => none) (some [])) fun l => some (.agg l.toArray)
  | _ => none
/-- a step of a plan for a region that draws its order: taken first; whatever it does; an operation that may come at any time from here on; it has come -/
inductive Pst where
  | q (i : Nat)
  | e (i : Nat)
  | o (f : Nat)
  | c
/-- the program by tables: what the kernel finds fast -/
structure Tb where
  prog : Program
  fs : Tr Func
  ts : Tr TypeInfo
  pl : Tr (Tr (List Pst)) := .lf
def Tb.inf (T : Tb) (t : TypeId) : Option TypeInfo := T.ts.get t
def Tb.und (T : Tb) (t : TypeId) : Option TypeDesc :=
  @Option.rec TypeInfo (fun _ => Option TypeDesc) none (fun i => match i.desc with
    | .named _ u => @Option.rec TypeInfo (fun _ => Option TypeDesc) none (fun j => some j.desc) (T.ts.get u)
    | d => some d) (T.ts.get t)
def rdT (P : Tb) (t : TypeId) : Option (Bool × Nat) :=
  match P.und t, P.inf t with
  | some (.struct _), some i | some (.array _ _), some i => some (true, i.size)
  | some _, some i => some (false, i.size)
  | _, _ => none
def szT (P : Tb) (t : TypeId) : Option Nat := bd (P.inf t) fun i => some i.size
def zrT (P : Tb) (t : TypeId) : Option AV := bd (P.inf t) fun i => bd i.zero fun v => some (ofV v)
/-- so many cells, all there -/
def cut (cs : List AV) (off n : Nat) : Option (List AV) :=
  let l := (cs.drop off).take n
  ck (Nat.beq l.length n) (some l)
def rdC (P : Tb) (t : TypeId) (cs : List AV) (off : Nat) : Option AV :=
  bd (rdT P t) fun p => bif p.1 then bd (cut cs off p.2) (fun l => some (.agg l)) else cs[off]?
/-- cells from a place on are written over -/
def wrC : List AV → Nat → List AV → Option (List AV)
  | cs, _, [] => some cs
  | [], _, _ => none
  | _ :: cs, 0, x :: xs => bd (wrC cs 0 xs) fun r => some (x :: r)
  | c :: cs, n + 1, xs => bd (wrC cs n xs) fun r => some (c :: r)
def fldT (P : Tb) (s : TypeId) (f : Nat) : Option Field :=
  match P.und s with
  | some (.struct fs) => fs.toList[f]?
  | _ => none
def ixI (a : AV) (n : Nat) : Option Nat :=
  match a with
  | .v (.int _ i) => bif (decide (0 ≤ i) && decide (i < (n : Int))) then some i.toNat else none
  | _ => none
/-- a slice's bound -/
def bnI (a : Option AV) (d n : Nat) : Option Nat :=
  match a with
  | none => some d
  | some (.v (.int _ i)) => bif (decide (0 ≤ i) && decide (i ≤ (n : Int))) then some i.toNat else none
  | _ => none
def eqB : List UInt8 → List UInt8 → Bool
  | [], [] => true
  | a :: x, b :: y => bif Nat.beq a.toNat b.toNat then eqB x y else false
  | _, _ => false
def ltB : List UInt8 → List UInt8 → Bool
  | _, [] => false
  | [], _ :: _ => true
  | a :: x, b :: y => bif Nat.blt a.toNat b.toNat then true else bif Nat.beq a.toNat b.toNat then ltB x y else false
def strB (op : BinOp) (x y : List UInt8) : Option Value :=
  match op with
  | .add => bif Nat.blt (x.length + y.length) 4611686018427387904 then some (.string ⟨(x ++ y).toArray⟩) else none
  | .eql => some (.bool (eqB x y))
  | .neq => some (.bool (!eqB x y))
  | .lss => some (.bool (ltB x y))
  | .leq => some (.bool (ltB x y || eqB x y))
  | .gtr => some (.bool (!(ltB x y || eqB x y)))
  | .geq => some (.bool (!ltB x y))
  | _ => none
/-- a place of the run's own beside nil, or beside another place in the same block -/
def eqP (P : Tb) (t : TypeId) (a b : AV) : Option Bool :=
  match P.und t, a, b with
  | some (.pointer e), .ptr b o, .ptr c p => bd (szT P e) fun z => ck (Nat.beq b c && Nat.blt 0 z) (some (Nat.beq o p))
  | some (.pointer _), .ptr _ _, .v (.pointer none) | some (.pointer _), .v (.pointer none), .ptr _ _ => some false
  | some (.slice _), .sl _ _ _ _, .v (.slice none _ _) | some (.slice _), .v (.slice none _ _), .sl _ _ _ _ => some false
  | some (.slice _), .slo _ _ _ _, .v (.slice none _ _) | some (.slice _), .v (.slice none _ _), .slo _ _ _ _ => some false
  | some (.slice _), .es _ _ _ _, .v (.slice none _ _) | some (.slice _), .v (.slice none _ _), .es _ _ _ _ => some false
  | some (.map _ _), .map _, .v (.map none) | some (.map _ _), .v (.map none), .map _ => some false
  | some (.func _ _ _), .fn _ _ _, .v .nilFunc | some (.func _ _ _), .v .nilFunc, .fn _ _ _ => some false
  | some (.interface _), .ifc _ _, .v .nilIface | some (.interface _), .v .nilIface, .ifc _ _ => some false
  | _, _, _ => none
def binA (P : Tb) (op : BinOp) (t : TypeId) (x y : Operand) (a b : AV) : Option AV :=
  match a, b with
  | .v (.string s), .v (.string u) => bd (strB op s.data.toList u.data.toList) fun v => some (.v v)
  | a, b =>
    match eqP P t a b, op with
    | some r, .eql => some (.v (.bool r))
    | some r, .neq => some (.v (.bool (!r)))
    | _, _ => bd (toV a) fun u => bd (toV b) fun u' => bd (prun P.prog (do eqGuard op t x y u u'; binOp op t u u')) fun r => some (.v r)
/-- two keys of a map -/
def eqK : Value → Value → Option Bool
  | .int j a, .int k b => bif decide (j = k) then some (a == b) else none
  | .string a, .string b => some (eqB a.data.toList b.data.toList)
  | .bool a, .bool b => some (a == b)
  | _, _ => none
def eqKA : AV → AV → Option Bool
  | .v x, .v y => eqK x y
  | _, _ => none
def oU (k : AV) : List (AV × AV × Nat) → Nat → Option (Option (Nat × AV))
  | [], _ => some none
  | e :: es, i => bd (eqKA k e.1) fun b => bif b then some (some (i, e.2.1)) else oU k es (i + 1)
abbrev Hf := Nat → Option AO
def lenA (P : Tb) (h : Hf) (t : TypeId) (a : AV) : Option (Nat × Option Nat) :=
  match P.und t, a with
  | some (.slice _), .v (.slice none n _) => some (n, none)
  | some .string, .v (.string s) => some (s.data.toList.length, none)
  | some (.map _ _), .v (.map none) => some (0, none)
  | some (.slice _), .sl _ _ n _ => some (n, none)
  | some (.slice _), .slo _ _ n _ => some (n, none)
  | some (.slice _), .es _ _ _ _ => some (0, none)
  | some (.map _ _), .map b => match h b with | some (.map es _) => some (es.length, some b) | _ => none
  | _, _ => none
def hJ : List AV → Option (List UInt8)
  | [] => some []
  | .v (.int .u8 n) :: l => bd (hJ l) fun r => some (UInt8.ofNat n.toNat :: r)
  | _ :: _ => none
def optA (ρ : Operand → AV) : Option Operand → Option AV
  | none => none
  | some x => some (ρ x)
def pw (place : Nat → Option (Nat × Nat)) (cs : List AV) : List (Nat × AV) → Option (List AV)
  | [] => some cs
  | (i, a) :: rest => bd (place i) fun p => bd (celA a) fun l => ck (Nat.beq l.length p.2 && Nat.ble (p.1 + p.2) cs.length) (bd (wrC cs p.1 l) fun cs' => pw place cs' rest)
def eF (ρ : Operand → AV) (ps : Array (Nat × Operand)) : List (Nat × AV) := ps.toList.map fun p => (p.1, ρ p.2)
def mapO {α β : Type} (f : α → Option β) : List α → Option (List β)
  | [] => some []
  | x :: l => bd (f x) fun y => bd (mapO f l) fun r => some (y :: r)
def pr (P : Tb) (t : TypeId) (parts : List (Nat × AV)) : Option AV :=
  bd (zrT P t) fun z0 => bd (celA z0) fun z =>
  match P.und t with
  | some (.struct fs) => bd (mapO (fun (f : Field) => bd (szT P f.type) fun s => some (f.offset, s)) fs.toList) fun places => bd (pw (places[·]?) z parts) fun cs => some (.agg cs)
  | some (.array _ e) => bd (szT P e) fun s => bd (pw (fun i => some (i * s, s)) z parts) fun cs => some (.agg cs)
  | _ => none
/-- bounds of a slice: low, high, most -/
def bnds (ρ : Operand → AV) (lo hi mx : Option Operand) (n c : Nat) : Option (Nat × Nat × Nat) :=
  match mx, hi with
  | some _, none => none
  | _, _ => bd (bnI (optA ρ mx) c c) fun m => bd (bnI (optA ρ hi) n m) fun h => bd (bnI (optA ρ lo) 0 h) fun l => some (l, h, m)
def sN (P : Tb) (ρ : Operand → AV) (t : TypeId) (a : AV) (lo hi mx : Option Operand) : Option AV :=
  match P.und t, a with
  | some .string, .v (.string s) =>
    (match mx with
     | none => let l := s.data.toList
       bd (bnds ρ lo hi none l.length l.length) fun b => some (.v (.string ⟨((l.take b.2.1).drop b.1).toArray⟩))
     | _ => none)
  | some (.slice e), .v (.slice none 0 0) => bd (szT P e) fun _ => bd (bnds ρ lo hi mx 0 0) fun _ => some (.v (.slice none 0 0))
  | some (.slice e), .es b o n z => bd (szT P e) fun _ => (match mx with | none => bd (bnds ρ lo hi none 0 0) fun _ => some (.es b o n z) | _ => none)
  | some (.slice e), .sl b o n c => bd (szT P e) fun sz => bd (bnds ρ lo hi mx n c) fun r => some (.sl b (bif Nat.beq r.2.2 r.1 then o else o + r.1 * sz) (r.2.1 - r.1) (r.2.2 - r.1))
  | some (.slice e), .slo b o n z => bd (szT P e) fun sz => ck (Nat.beq sz z) <| bd (bnds ρ lo hi mx n n) fun r =>
    (match mx with
     | none => some (bif Nat.beq r.1 n then .es b o n z else .slo b (o + r.1 * z) (r.2.1 - r.1) z)
     | some _ => some (.sl b (bif Nat.beq r.2.2 r.1 then o else o + r.1 * z) (r.2.1 - r.1) (r.2.2 - r.1)))
  | some (.array n e), .ptr b o => bd (szT P e) fun sz => bd (bnds ρ lo hi mx n n) fun r => some (.sl b (bif Nat.beq r.2.2 r.1 then o else o + r.1 * sz) (r.2.1 - r.1) (r.2.2 - r.1))
  | _, _ => none
def pK (P : Tb) (h : Hf) (src dst : TypeId) (a : AV) : Option (AV × Option Nat) :=
  match P.und src, P.und dst, a with
  | some .string, some .string, .v (.string s) => some (.v (.string s), none)
  | some (.slice e), some .string, a =>
    (match P.und e, a with
     | some (.int .u8), .v (.slice none _ _) => some (.v (.string .empty), none)
     | some (.int .u8), .sl b o n _ =>
       (match h b with
        | some (.cells cs _) => bd (cut cs o n) fun l => bd (hJ l) fun bs => some (.v (.string ⟨bs.toArray⟩), some b)
        | _ => none)
     | some (.int .u8), .slo b o n _ =>
       (match h b with
        | some (.cells cs _) => bd (cut cs o n) fun l => bd (hJ l) fun bs => some (.v (.string ⟨bs.toArray⟩), some b)
        | _ => none)
     | _, _ => none)
  | some (.int _), some (.int _), .v (.int k n) => bd (prun P.prog (convert src dst (.int k n))) fun v => some (.v v, none)
  | _, _, _ => none
def q7 (P : Tb) (h : Hf) (t : TypeId) (a : AV) : Option (AV × Option Nat) :=
  match a with
  | .ptr b o => match h b with | some (.cells cs _) => bd (rdC P t cs o) fun a => some (a, some b) | _ => none
  | _ => none
def nilA : AV → Option AV
  | .v (.pointer none) | .v .nilIface | .v .nilFunc | .v (.func _ _ _) | .fn (.method _) _ _ => none
  | a => some a
def fldA (P : Tb) (s : TypeId) (a : AV) (f : Nat) : Option AV :=
  match a with
  | .ptr b o => bd (fldT P s f) fun fd => bd (szT P fd.type) fun z => bif Nat.beq z 0 then none else some (.ptr b (o + fd.offset))
  | _ => none
def sM (P : Tb) (s : TypeId) (a : AV) (f : Nat) : Option AV :=
  match a with
  | .agg cs => bd (fldT P s f) fun fd => rdC P fd.type cs fd.offset
  | _ => none
def ixaA (P : Tb) (t : TypeId) (a i : AV) : Option AV :=
  match P.und t, a with
  | some (.array n e), .ptr b o => bd (ixI i n) fun k => bd (szT P e) fun z => some (.ptr b (o + k * z))
  | some (.slice e), .sl b o n _ => bd (ixI i n) fun k => bd (szT P e) fun z => some (.ptr b (o + k * z))
  | some (.slice e), .slo b o n _ => bd (ixI i n) fun k => bd (szT P e) fun z => some (.ptr b (o + k * z))
  | _, _ => none
def ixA (P : Tb) (t : TypeId) (a i : AV) : Option AV :=
  match P.und t, a with
  | some (.array n e), .agg cs => bd (ixI i n) fun k => bd (szT P e) fun z => rdC P e cs (k * z)
  | some .string, .v (.string s) => bd (ixI i s.data.toList.length) fun k => bd (s.data.toList[k]?) fun c => some (.v (.int .u8 c.toNat))
  | _, _ => none
def s4 (P : Tb) (et : TypeId) (ok : Bool) (r : Option AV) : Option AV :=
  match r with
  | some a => some (bif ok then .tup [a, .v (.bool true)] else a)
  | none => bd (zrT P et) fun z => some (bif ok then .tup [z, .v (.bool false)] else z)
/-- a key that is compared as it stands -/
def keyT (P : Tb) (t : TypeId) (k : AV) : Bool :=
  match P.und t, k with
  | some (.int j), .v (.int k _) => decide (j = k)
  | some .string, .v (.string _) | some .bool, .v (.bool _) => true
  | _, _ => false
def qv (P : Tb) (h : Hf) (t : TypeId) (a k : AV) (ok : Bool) : Option (AV × Option Nat) :=
  match P.und t, a with
  | some (.map kt et), .v (.map none) => ck (keyT P kt k) (bd (s4 P et ok none) fun r => some (r, none))
  | some (.map kt et), .map b => ck (keyT P kt k) (match h b with
    | some (.map es _) => bd (oU k es 0) fun r => bd (s4 P et ok (match r with | some p => some p.2 | none => none)) fun x => some (x, some b)
    | _ => none)
  | _, _ => none
def vU (a : AV) (i : Nat) : Option AV :=
  match a with
  | .tup vs => vs[i]?
  | _ => none
def yy (c a b : AV) : Option AV :=
  match c with
  | .v (.bool g) => some (bif g then a else b)
  | _ => none
def minA (mx : Bool) (a b : AV) : Option AV :=
  match a, b with
  | .v (.int j m), .v (.int k n) => bif decide (j = k) then some (.v (.int j (bif mx then (if m < n then n else m) else (if n < m then n else m)))) else none
  | _, _ => none
def unA (P : Tb) (op : UnOp) (a : AV) : Option AV :=
  match a with
  | .v x => bd (prun P.prog (Op.unary op x)) fun v => some (.v v)
  | _ => none
def mkiA (P : Tb) (t : TypeId) (a : AV) : Option AV :=
  match P.und t with
  | some (.interface _) => none
  | some _ => some (.ifc t a)
  | none => none
/-- asked for a type that is no interface -/
def tasA (P : Tb) (a : AV) (t : TypeId) (ok : Bool) : Option AV :=
  match P.und t with
  | some (.interface _) => none
  | none => none
  | some _ =>
    match a with
    | .ifc u x => bif Nat.beq u t then some (bif ok then .tup [x, .v (.bool true)] else x) else (bif ok then bd (zrT P t) fun z => some (.tup [z, .v (.bool false)]) else none)
    | .v .nilIface => bif ok then bd (zrT P t) fun z => some (.tup [z, .v (.bool false)]) else none
    | _ => none
def q0 (a : Option AV) : Option (AV × Option Nat) := bd a fun x => some (x, none)
def rho (x : Operand) : Tr AV → AV :=
  @Operand.rec (fun _ => Tr AV → AV) (fun t E => @Option.rec AV (fun _ => AV) (.v undef) (fun a => a) (E.get t)) (fun v _ => ofV v) (fun g _ => .v (.pointer (some ⟨g, 0, none⟩))) (fun f _ => .fn (.func f) [] []) x
def rhoE (E : Tr AV) (x : Operand) : AV := rho x E
def opQb : Builtin → Array Operand → Array TypeId → Tb → Hf → Tr AV → Option (AV × Option Nat)
  | .len => fun args argTypes P h E => (match args.toList, argTypes.toList with | [x], [t] => bd (lenA P h t (rho x E)) fun r => some (.v (.int .i64 r.1), r.2) | _, _ => none)
  | .min => fun args _ _ _ E => (match args.toList with | [x, y] => q0 (minA false (rho x E) (rho y E)) | _ => none)
  | .max => fun args _ _ _ E => (match args.toList with | [x, y] => q0 (minA true (rho x E) (rho y E)) | _ => none)
  | _ => fun _ _ _ _ _ => none
def opQc : Callee → Array Operand → Array TypeId → Tb → Hf → Tr AV → Option (AV × Option Nat)
  | .builtin b => opQb b
  | _ => fun _ _ _ _ _ => none
/-- what leaves the world as it is: the value, and the block that was read -/
def opQ (op : Op) : Tb → Hf → Tr AV → Option (AV × Option Nat) :=
  @Op.rec (fun _ => Tb → Hf → Tr AV → Option (AV × Option Nat))
    (fun x _ _ E => some (rho x E, none))
    (fun x _ _ E => some (rho x E, none))
    (fun c a b _ _ E => q0 (yy (rho c E) (rho a E) (rho b E)))
    (fun _ _ _ _ => none)
    (fun _ _ _ _ _ => none)
    (fun t ps P _ E => q0 (pr P t (eF (rhoE E) ps)))
    (fun _ _ _ _ _ _ => none)
    (fun _ _ _ _ _ _ _ => none)
    (fun t x P h E => q7 P h t (rho x E))
    (fun _ _ _ _ _ _ => none)
    (fun _ _ _ _ => none)
    (fun _ _ _ _ => none)
    (fun x _ _ E => q0 (nilA (rho x E)))
    (fun op t x y _ P _ E => q0 (binA P op t x y (rho x E) (rho y E)))
    (fun op _ x P _ E => q0 (unA P op (rho x E)))
    (fun src dst x P h E => pK P h src dst (rho x E))
    (fun _ _ _ _ _ => none)
    (fun t x P _ E => q0 (mkiA P t (rho x E)))
    (fun f first caps _ _ E => some (.fn f (first.toList.map (rhoE E)) (caps.toList.map (rhoE E)), none))
    (fun _ _ _ _ _ => none)
    (fun _ _ _ _ _ => none)
    (fun _ _ _ _ _ _ => none)
    (fun t x lo hi mx P _ E => q0 (sN P (rhoE E) t (rho x E) lo hi mx))
    (fun s x f P _ E => q0 (fldA P s (rho x E) f))
    (fun s x f P _ E => q0 (sM P s (rho x E) f))
    (fun t x i P _ E => q0 (ixaA P t (rho x E) (rho i E)))
    (fun t x i P _ E => q0 (ixA P t (rho x E) (rho i E)))
    (fun t x k ok P h E => qv P h t (rho x E) (rho k E) ok)
    (fun _ _ _ _ _ _ _ => none)
    (fun _ _ _ _ _ _ => none)
    (fun _ _ _ _ _ _ _ => none)
    (fun _ _ _ _ _ => none)
    (fun _ _ _ _ _ => none)
    (fun _ _ _ _ => none)
    (fun x _ t ok P _ E => q0 (tasA P (rho x E) t ok))
    (fun x i _ _ E => q0 (vU (rho x E) i))
    (fun c => opQc c.callee c.args c.argTypes)
    (fun _ _ _ _ => none)
    (fun _ _ _ _ => none)
    (fun _ _ _ _ => none)
    (fun _ _ _ _ _ => none)
    (fun _ _ _ _ _ _ => none)
    (fun _ _ _ _ _ => none) op

abbrev Hp := Tr AO
def jH : AV := .v undef
/-- how many things an append or a copy takes, and their cells -/
def srcA (P : Tb) (h : Hf) (t : TypeId) (sz : Nat) (a : AV) : Option (Nat × List AV) :=
  match P.und t, a with
  | some (.slice _), .v (.slice none 0 _) => some (0, [])
  | some (.slice _), .es _ _ _ _ => some (0, [])
  | some .string, .v (.string s) => ck (Nat.beq sz 1) (some (s.data.toList.length, s.data.toList.map fun b => .v (.int .u8 b.toNat)))
  | some (.slice _), .sl b o n _ => (match h b with | some (.cells cs _) => bd (cut cs o (n * sz)) fun l => some (n, l) | _ => none)
  | some (.slice _), .slo b o n _ => (match h b with | some (.cells cs _) => bd (cut cs o (n * sz)) fun l => some (n, l) | _ => none)
  | _, _ => none
def repA : Nat → List AV → List AV
  | 0, _ => []
  | n + 1, z => z ++ repA n z
/-- the zero cells of an element -/
def zcA (P : Tb) (e : TypeId) : Option (List AV) :=
  bd (szT P e) fun sz => bd (zrT P e) fun z0 => bd (celA z0) fun z => ck (Nat.beq z.length sz && Nat.blt 0 sz) (some z)
def pi (P : Tb) (H : Hp) (id : Nat) (t : TypeId) (v : Option AV) : Option (AV × Hp) :=
  bd v fun z0 => bd (celA z0) fun z => some (.ptr id 0, H.set id (some (.cells z t)))
def bslA (P : Tb) (H : Hp) (id : Nat) (t : TypeId) (n : Nat) (ps : List (Nat × AV)) : Option (AV × Hp) :=
  match P.und t with
  | some (.slice e) => bd (zcA P e) fun z => ck (Nat.ble (n * z.length) 16777216) (bd (pw (fun i => some (i * z.length, z.length)) (repA n z) ps) fun cs =>
        some (.sl id 0 n n, H.set id (some (.cells cs e))))
  | _ => none
def tD (P : Tb) (H : Hp) (t : TypeId) (a x : AV) : Option (AV × Hp) :=
  match a with
  | .ptr b o => (match H.get b with
    | some (.cells cs e) => bd (szT P t) fun z => bd (celA x) fun l => ck (Nat.beq l.length z) (bd (wrC cs o l) fun cs' => some (jH, H.set b (some (.cells cs' e))))
    | _ => none)
  | _ => none
def mkmA (P : Tb) (H : Hp) (id : Nat) (t : TypeId) (r : Option AV) : Option (AV × Hp) :=
  match P.und t, r with
  | some (.map _ _), none => some (.map id, H.set id (some (.map [] 0)))
  | some (.map _ _), some (.v (.int _ _)) => some (.map id, H.set id (some (.map [] 0)))
  | _, _ => none
def mksA (P : Tb) (H : Hp) (id : Nat) (t : TypeId) (x y : AV) : Option (AV × Hp) :=
  match P.und t, x, y with
  | some (.slice e), .v (.int .i64 l), .v (.int .i64 c) =>
    bd (P.inf e) fun i => bd (zcA P e) fun z =>
      ck (decide (0 ≤ l) && decide (l ≤ c) && decide (c < 1048576) && Nat.blt i.bytes 1024) (some (.sl id 0 l.toNat c.toNat, H.set id (some (.cells (repA c.toNat z) e))))
  | _, _, _ => none
def mupA (P : Tb) (H : Hp) (t : TypeId) (m k x : AV) : Option (AV × Hp) :=
  match P.und t, m with
  | some (.map kt _), .map b =>
    (match H.get b with
     | some (.map es c) => ck (keyT P kt k) <| bd (oU k es 0) fun r =>
       (match r with
        | some (i, _) => some (jH, H.set b (some (.map (es.modify i fun e => (k, x, e.2.2)) c)))
        | none => some (jH, H.set b (some (.map (es ++ [(k, x, c)]) (c + 1)))))
     | _ => none)
  | _, _ => none
def rngA (P : Tb) (H : Hp) (id : Nat) (t : TypeId) (a : AV) : Option (AV × Hp) :=
  match P.und t, a with
  | some (.map _ _), .v (.map none) => some (.ptr id 0, H.set id (some (.miter none 0 [] 0)))
  | some (.map _ _), .map b => (match H.get b with | some (.map _ c) => some (.ptr id 0, H.set id (some (.miter (some b) c [] c))) | _ => none)
  | some .string, .v (.string s) => some (.ptr id 0, H.set id (some (.siter s 0)))
  | _, _ => none
def wq (H : Hp) (a : AV) : Option (AV × Hp) :=
  match a with
  | .ptr it 0 => (match H.get it with
    | some (.miter none _ _ _) => some (.tup [.v (.bool false)], H)
    | some (.miter (some m) since seen last) =>
      (match H.get m with
       | some (.map es c) =>
         bif (!seen.isEmpty && !es.isEmpty && es.all (fun e => decide (last ≤ e.2.2))) then none else
         (match es.filter (fun e => !seen.contains e.2.2) with
          | [] => some (.tup [.v (.bool false)], H)
          | [e] => bif decide (e.2.2 < since) then some (.tup [.v (.bool true), e.1, e.2.1], H.set it (some (.miter (some m) since (seen ++ [e.2.2]) c))) else none
          | _ => none)
       | _ => none)
    | _ => none)
  | _ => none
def qO (H : Hp) (a : AV) : Option AV :=
  match a with
  | .ptr it 0 => (match H.get it with
    | some (.miter (some m) _ seen last) =>
      (match H.get m, seen.getLast? with
       | some (.map es c), some b => ck (Nat.beq c last) (match es.find? (fun e => Nat.beq e.2.2 b) with
         | some e => some (.tup [e.1, e.2.1])
         | none => none)
       | _, _ => none)
    | _ => none)
  | _ => none
def cvtA (P : Tb) (H : Hp) (id : Nat) (src dst : TypeId) (a : AV) : Option (AV × Hp) :=
  match P.und src, P.und dst, a with
  | some .string, some (.slice e), .v (.string s) =>
    (match P.und e with
     | some (.int .u8) => ck (Nat.blt s.data.toList.length 1048576) (some (.slo id 0 s.data.toList.length 1, H.set id (some (.cells (s.data.toList.map fun b => .v (.int .u8 b.toNat)) e))))
     | _ => none)
  | _, _, _ => none
def appA (P : Tb) (H : Hp) (id : Nat) (st xt : TypeId) (s x : AV) : Option (AV × Hp) :=
  match P.und st with
  | some (.slice e) =>
    bd (P.inf e) fun i => bd (zcA P e) fun z => bd (srcA P H.get xt z.length x) fun p => ck (Nat.blt i.bytes 1024 && Nat.blt p.1 1048576) <|
    (match s with
     | .v (.slice none 0 0) => bif Nat.beq p.1 0 then some (.v (.slice none 0 0), H) else some (.slo id 0 p.1 z.length, H.set id (some (.cells p.2 e)))
     | .es b _ _ y => bif Nat.beq p.1 0 then some (s, H) else
       (match H.get b with
        | some (.cells _ e') => ck (Nat.beq y z.length && Nat.beq e e') (some (.slo id 0 p.1 y, (H.set b none).set id (some (.cells p.2 e))))
        | _ => none)
     | .sl b o l c =>
       bif Nat.ble (l + p.1) c then
         (match H.get b with
          | some (.cells cs e') => bd (wrC cs (o + l * z.length) p.2) fun cs' => some (.sl b o (l + p.1) c, H.set b (some (.cells cs' e')))
          | _ => none)
       else ck (Nat.blt l 1048576) <| bd (srcA P H.get st z.length s) fun q => some (.slo id 0 (l + p.1) z.length, H.set id (some (.cells (q.2 ++ p.2) e)))
     | .slo b o l y =>
       bif Nat.beq p.1 0 then some (s, H) else
       (match H.get b with
        | some (.cells _ e') => ck (Nat.beq y z.length && Nat.beq e e' && Nat.blt l 1048576) (bd (srcA P H.get st z.length s) fun q => some (.slo id 0 (l + p.1) y, (H.set b none).set id (some (.cells (q.2 ++ p.2) e))))
        | _ => none)
     | _ => none)
  | _ => none
def delA (P : Tb) (H : Hp) (mt : TypeId) (m k : AV) : Option (AV × Hp) :=
  match P.und mt, m with
  | some (.map kt _), .map b => (match H.get b with
    | some (.map es c) => ck (keyT P kt k) <| bd (oU k es 0) fun r =>
      (match r with
       | some (i, _) => some (.tup [], H.set b (some (.map (es.eraseIdx i) c)))
       | none => some (.tup [], H))
    | _ => none)
  | some (.map kt _), .v (.map none) => ck (keyT P kt k) (some (.tup [], H))
  | _, _ => none
def opEb : Builtin → Array Operand → Array TypeId → Tb → Hp → Nat → Tr AV → Option (AV × Hp)
  | .append => fun args argTypes P H id E => (match args.toList, argTypes.toList with | [s, x], [st, xt] => appA P H id st xt (rho s E) (rho x E) | _, _ => none)
  | .delete => fun args argTypes P H _ E => (match args.toList, argTypes.toList with | [m, k], [mt, _] => delA P H mt (rho m E) (rho k E) | _, _ => none)
  | _ => fun _ _ _ _ _ _ => none
def opEc : Callee → Array Operand → Array TypeId → Tb → Hp → Nat → Tr AV → Option (AV × Hp)
  | .builtin b => opEb b
  | _ => fun _ _ _ _ _ _ => none
/-- what turns the world: the value (none: there is none), the blocks; id: the number of a block that is made -/
def opE (op : Op) : Tb → Hp → Nat → Tr AV → Option (AV × Hp) :=
  @Op.rec (fun _ => Tb → Hp → Nat → Tr AV → Option (AV × Hp))
    (fun _ _ _ _ _ => none)
    (fun _ _ _ _ _ => none)
    (fun _ _ _ _ _ _ _ => none)
    (fun t P H id _ => pi P H id t (zrT P t))
    (fun t x P H id E => pi P H id t (some (rho x E)))
    (fun _ _ _ _ _ _ => none)
    (fun t n ps P H id E => bslA P H id t n (eF (rhoE E) ps))
    (fun t m k x P H _ E => mupA P H t (rho m E) (rho k E) (rho x E))
    (fun _ _ _ _ _ _ => none)
    (fun t x y P H _ E => tD P H t (rho x E) (rho y E))
    (fun _ _ _ _ _ => none)
    (fun _ _ _ _ _ => none)
    (fun _ _ _ _ _ => none)
    (fun _ _ _ _ _ _ _ _ _ => none)
    (fun _ _ _ _ _ _ _ => none)
    (fun src dst x P H id E => cvtA P H id src dst (rho x E))
    (fun _ _ _ _ _ _ => none)
    (fun _ _ _ _ _ _ => none)
    (fun _ _ _ _ _ _ _ => none)
    (fun t r P H id E => (match r with | none => mkmA P H id t none | some x => mkmA P H id t (some (rho x E))))
    (fun _ _ _ _ _ _ => none)
    (fun t x y P H id E => mksA P H id t (rho x E) (rho y E))
    (fun _ _ _ _ _ _ _ _ _ => none)
    (fun _ _ _ _ _ _ _ => none)
    (fun _ _ _ _ _ _ _ => none)
    (fun _ _ _ _ _ _ _ => none)
    (fun _ _ _ _ _ _ _ => none)
    (fun _ _ _ _ _ _ _ _ => none)
    (fun t m k x P H _ E => mupA P H t (rho m E) (rho k E) (rho x E))
    (fun _ _ _ _ _ _ _ => none)
    (fun _ _ _ _ _ _ _ _ => none)
    (fun t x P H id E => rngA P H id t (rho x E))
    (fun x s _ H _ E => (match s with | false => wq H (rho x E) | true => none))
    (fun x _ H _ E => bd (qO H (rho x E)) fun a => some (a, H))
    (fun _ _ _ _ _ _ _ _ => none)
    (fun _ _ _ _ _ _ => none)
    (fun c => opEc c.callee c.args c.argTypes)
    (fun _ _ _ _ _ => none)
    (fun _ _ _ _ _ => none)
    (fun _ _ _ _ _ => none)
    (fun _ _ _ _ _ _ => none)
    (fun _ _ _ _ _ _ _ => none)
    (fun _ _ _ _ _ _ => none) op

/-- a deferred call: the mark of a loop over a function, or a closure -/
inductive Df where
  | mark (b : Nat)
  | call (f : FuncId) (caps : List AV)
/-- where the run stands -/
structure St where
  E : Tr AV
  H : Hp
  n : Nat
  ds : List Df
inductive Ex where
  | nor
  | exit (id : Nat)
  | ret
abbrev Cl := FuncId → List AV → Hp → Nat → Option (AV × Hp × Nat)
/-- is it wanted? -/
def lL (w : Bool) : AV → Bool
  | .v (.bool g) => g == w
  | _ => false
def m9 (o : Oper) (ops : Array Oper) (E : Tr AV) : Bool :=
  @Option.rec (Nat × Bool) (fun _ => Bool) true (fun p => @Option.rec Nat (fun _ => Bool) false (fun d => lL p.2 (rho (.tmp d) E)) ((ops[p.1]?).bind (·.dst))) o.guard
def okD (d : Option Nat) (N : Nat) : Bool := @Option.rec Nat (fun _ => Bool) true (fun d => Nat.blt d N) d
def putA (d : Option Nat) (E : Tr AV) (a : AV) : Tr AV := @Option.rec Nat (fun _ => Tr AV) E (fun d => E.set d (some a)) d
/-- whom a call enters -/
def qH (c : Call) (E : Tr AV) : Option (FuncId × List AV) :=
  match c.callee with
  | .value f => (match rho f E with
    | .fn (.func g) first caps => some (g, first ++ c.args.toList.map (rhoE E) ++ caps)
    | _ => none)
  | _ => none
/-- functions that are told otherwise: they may make one block, of this number -/
abbrev Xf := FuncId → List AV → Hp → Nat → Option (AV × Hp)
/-- a byte's place in a text -/
def pe (c : Nat) : List UInt8 → Nat → Int
  | [], _ => -1
  | b :: l, i => bif Nat.beq b.toNat c then (i : Int) else pe c l (i + 1)
def exIx (args : List AV) (H : Hp) : Option (AV × Hp) :=
  match args with
  | [.v (.string s), .v (.int .u8 c)] => some (.v (.int .i64 (pe (c.toNat % 256) s.data.toList 0)), H)
  | _ => none
def uo (args : List AV) (H : Hp) (id : Nat) : Option (AV × Hp) :=
  match args with
  | [.ifc t (.map b)] => (match H.get b with
    | some (.map es c) => some (.ifc t (.map id), H.set id (some (.map es c)))
    | _ => none)
  | _ => none
/-- what a run hangs on: the program, the functions that are told otherwise, the calls, the drawn regions, how many slots -/
structure Rn where
  P : Tb
  ex : Xf
  cl : Cl
  dr : Nat → Array Oper → St → Option St
  N : Nat
def qRes (x : Option (AV × Option Nat)) (H : Hp) (n : Nat) : Option (AV × Hp × Nat) := @Option.rec (AV × Option Nat) (fun _ => Option (AV × Hp × Nat)) none (fun q => @Prod.rec AV (Option Nat) (fun _ => Option (AV × Hp × Nat)) (fun a _ => some (a, H, n)) q) x
def eRes (x : Option (AV × Hp)) (m : Nat) : Option (AV × Hp × Nat) := @Option.rec (AV × Hp) (fun _ => Option (AV × Hp × Nat)) none (fun q => @Prod.rec AV Hp (fun _ => Option (AV × Hp × Nat)) (fun a H => some (a, H, m)) q) x
def orR (x y : Option (AV × Hp × Nat)) : Option (AV × Hp × Nat) := @Option.rec (AV × Hp × Nat) (fun _ => Option (AV × Hp × Nat)) y (fun q => some q) x
def vN (c : Call) (R : Rn) (H : Hp) (n id m : Nat) (E : Tr AV) : Option (AV × Hp × Nat) := bd (qH c E) fun p => orR (eRes (R.ex p.1 p.2 H id) m) (R.cl p.1 p.2 H n)
/-- one operation: the value, the blocks, the next number -/
def opA (op : Op) : Rn → Hp → Nat → Nat → Nat → Tr AV → Option (AV × Hp × Nat) :=
  @Op.rec (fun _ => Rn → Hp → Nat → Nat → Nat → Tr AV → Option (AV × Hp × Nat))
    (fun a R H n _ _ E => qRes (opQ (.move a) R.P H.get E) H n)
    (fun a R H n _ _ E => qRes (opQ (.assign a) R.P H.get E) H n)
    (fun a b c R H n _ _ E => qRes (opQ (.pick a b c) R.P H.get E) H n)
    (fun a R H _ id m E => eRes (opE (.alloc a) R.P H id E) m)
    (fun a b R H _ id m E => eRes (opE (.box a b) R.P H id E) m)
    (fun a b R H n _ _ E => qRes (opQ (.build a b) R.P H.get E) H n)
    (fun a b c R H _ id m E => eRes (opE (.buildSlice a b c) R.P H id E) m)
    (fun a b c d R H _ id m E => eRes (opE (.insert a b c d) R.P H id E) m)
    (fun a b R H n _ _ E => qRes (opQ (.load a b) R.P H.get E) H n)
    (fun a b c R H _ id m E => eRes (opE (.store a b c) R.P H id E) m)
    (fun _ _ _ _ _ _ _ => none)
    (fun _ _ _ _ _ _ _ => none)
    (fun a R H n _ _ E => qRes (opQ (.nilCheck a) R.P H.get E) H n)
    (fun a b c d e R H n _ _ E => qRes (opQ (.binOp a b c d e) R.P H.get E) H n)
    (fun a b c R H n _ _ E => qRes (opQ (.unOp a b c) R.P H.get E) H n)
    (fun a b c R H n id m E => orR (qRes (opQ (.convert a b c) R.P H.get E) H n) (eRes (opE (.convert a b c) R.P H id E) m))
    (fun _ _ _ _ _ _ _ _ => none)
    (fun a b R H n _ _ E => qRes (opQ (.makeInterface a b) R.P H.get E) H n)
    (fun a b c R H n _ _ E => qRes (opQ (.makeFunc a b c) R.P H.get E) H n)
    (fun a b R H _ id m E => eRes (opE (.makeMap a b) R.P H id E) m)
    (fun _ _ _ _ _ _ _ _ => none)
    (fun a b c R H _ id m E => eRes (opE (.makeSlice a b c) R.P H id E) m)
    (fun a b c d e R H n _ _ E => qRes (opQ (.slice a b c d e) R.P H.get E) H n)
    (fun a b c R H n _ _ E => qRes (opQ (.fieldAddr a b c) R.P H.get E) H n)
    (fun a b c R H n _ _ E => qRes (opQ (.field a b c) R.P H.get E) H n)
    (fun a b c R H n _ _ E => qRes (opQ (.indexAddr a b c) R.P H.get E) H n)
    (fun a b c R H n _ _ E => qRes (opQ (.index a b c) R.P H.get E) H n)
    (fun a b c d R H n _ _ E => qRes (opQ (.lookup a b c d) R.P H.get E) H n)
    (fun a b c d R H _ id m E => eRes (opE (.mapUpdate a b c d) R.P H id E) m)
    (fun _ _ _ _ _ _ _ _ _ => none)
    (fun _ _ _ _ _ _ _ _ _ _ => none)
    (fun a b R H _ id m E => eRes (opE (.range a b) R.P H id E) m)
    (fun a b R H _ id m E => eRes (opE (.next a b) R.P H id E) m)
    (fun a R H _ id m E => eRes (opE (.entry a) R.P H id E) m)
    (fun a b c d R H n _ _ E => qRes (opQ (.typeAssert a b c d) R.P H.get E) H n)
    (fun a b R H n _ _ E => qRes (opQ (.extract a b) R.P H.get E) H n)
    (fun a R H n id m E => orR (qRes (opQ (.call a) R.P H.get E) H n) (orR (eRes (opE (.call a) R.P H id E) m) (vN a R H n id m E)))
    (fun _ _ _ _ _ _ _ => none)
    (fun _ _ _ _ _ _ _ => none)
    (fun _ _ _ _ _ _ _ => none)
    (fun _ _ _ _ _ _ _ _ => none)
    (fun _ _ _ _ _ _ _ _ _ => none)
    (fun _ _ _ _ _ _ _ _ => none) op
/-- a closure that is deferred -/
def ox (c : Call) (E : Tr AV) : Option Df :=
  match c.callee, c.args.toList with
  | .value f, [] => (match rho f E with
    | .fn (.func g) [] caps => some (.call g caps)
    | _ => none)
  | _, _ => none
def oc : Op → Option Call
  | .defer c => some c
  | _ => none
/-- one operation, with its place in the frame -/
def jX (o : Oper) (ops : Array Oper) (R : Rn) (s : St) : Option St :=
  @St.rec (fun _ => Option St) (fun E H n ds =>
    @Bool.rec (fun _ => Option St) none
      (@Bool.rec (fun _ => Option St) (some ⟨putA o.dst E jH, H, n, ds⟩)
        (@Option.rec Call (fun _ => Option St)
          (@Option.rec (AV × Hp × Nat) (fun _ => Option St) none (fun r => @Prod.rec AV (Hp × Nat) (fun _ => Option St) (fun a q => @Prod.rec Hp Nat (fun _ => Option St) (fun H' n' => some ⟨putA o.dst E a, H', n', ds⟩) q) r) (opA o.op R H n n (n + 1) E))
          (fun c => bd (ox c E) fun d => some ⟨putA o.dst E jH, H, n, d :: ds⟩) (oc o.op)) (m9 o ops E)) (okD o.dst R.N)) s
/-- operations in the order of the text -/
def runL (l : List Oper) : Array Oper → Rn → St → Option St :=
  @List.rec Oper (fun _ => Array Oper → Rn → St → Option St) (fun _ _ s => some s) (fun o _ ih ops R s => @Option.rec St (fun _ => Option St) none (fun s' => ih ops R s') (jX o ops R s)) l
/-- behind a part that ended normally -/
def rk (x : Option (Ex × St)) (k : St → Option (Ex × St)) : Option (Ex × St) :=
  @Option.rec (Ex × St) (fun _ => Option (Ex × St)) none (fun r => @Prod.rec Ex St (fun _ => Option (Ex × St)) (fun x s => @Ex.rec (fun _ => Option (Ex × St)) (k s) (fun i => some (.exit i, s)) (some (.ret, s)) x) r) x
def sf (n : Nat) : (St → Option (Ex × St)) → St → Option (Ex × St) :=
  @Nat.rec (fun _ => (St → Option (Ex × St)) → St → Option (Ex × St)) (fun _ _ => none) (fun _ ih body s => rk (body s) fun s' => ih body s') n
/-- a range over a function that makes no round -/
def rfA (cl : Cl) (g : AV) (s : St) : Option (Ex × St) :=
  match g, s.ds with
  | .fn (.func f) [] caps, [] => bd (cl f (.yl :: caps) s.H s.n) fun r => some (.nor, ⟨s.E, r.2.1.set r.2.2 (some .dfr), r.2.2 + 1, [.mark r.2.2]⟩)
  | _, _ => none
def blkA (id : Nat) (x : Option (Ex × St)) : Option (Ex × St) :=
  @Option.rec (Ex × St) (fun _ => Option (Ex × St)) none (fun r => @Prod.rec Ex St (fun _ => Option (Ex × St)) (fun x s => @Ex.rec (fun _ => Option (Ex × St)) (some (.nor, s)) (fun i => @Bool.rec (fun _ => Option (Ex × St)) (some (.exit i, s)) (some (.nor, s)) (Nat.beq i id)) (some (.ret, s)) x) r) x
def uq : AV → Option Bool
  | .v (.bool g) => some g
  | _ => none
def norA (x : Option St) : Option (Ex × St) := @Option.rec St (fun _ => Option (Ex × St)) none (fun s => some (.nor, s)) x
def runC (c : Code) : Rn → St → Option (Ex × St) :=
  @Code.rec (fun _ => Rn → St → Option (Ex × St))
    (fun _ s => some (.nor, s))
    (fun id ops draw R s => norA (@Bool.rec (fun _ => Option St) (runL ops.toList ops R s) (R.dr id ops s) draw))
    (fun _ _ ra rb R s => rk (ra R s) fun s' => rb R s')
    (fun c _ _ ra rb R s => @Option.rec Bool (fun _ => Option (Ex × St)) none (fun g => @Bool.rec (fun _ => Option (Ex × St)) (rb R s) (ra R s) g) (uq (rho c s.E)))
    (fun id _ rc R s => blkA id (rc R s))
    (fun _ rc R s => sf 1000000 (rc R) s)
    (fun g _ _ _ _ _ R s => rfA R.cl (rho g s.E) s)
    (fun id _ s => some (.exit id, s))
    (fun _ rc R s => rc R s)
    (fun _ _ s => some (.nor, s))
    (fun _ _ _ => none)
    (fun _ s => some (.ret, s))
    (fun _ _ _ => none) c
def resA (P : Tb) (E : Tr AV) (H : Hp) : List ResultVar → Option (List AV)
  | [] => some []
  | .tmp t :: l => bd (resA P E H l) fun r => some (rho (.tmp t) E :: r)
  | .cell a t :: l => (match rho (.tmp a) E with
    | .ptr b o => (match H.get b with
      | some (.cells cs _) => bd (rdC P t cs o) fun x => bd (resA P E H l) fun r => some (x :: r)
      | _ => none)
    | _ => none)
def retA : List AV → AV
  | [a] => a
  | l => .tup l
def envA : List AV → Nat → Tr AV → Tr AV
  | [], _, E => E
  | a :: l, i, E => envA l (i + 1) (E.set i (some a))
def wk (o : Oper) : Bool :=
  match o.op, o.guard with
  | .call { callee := .builtin .recover, args, .. }, none => args.toList.isEmpty
  | _, _ => false
/-- a deferred closure that recovers first of all, and finds nothing -/
def wC (P : Tb) (rc : FuncId → Nat → Code → St → Option (Ex × St)) (f : FuncId) (caps : List AV) (H : Hp) (n : Nat) : Option (Hp × Nat) :=
  bd (P.fs.get f) fun fn => bd fn.body fun c => ck (Nat.ble caps.length fn.ntmps && fn.results.toList.isEmpty) <|
  match c with
  | .seq (.region _ ops false) rest =>
    (match ops.toList with
     | [o] => (match o.dst with
       | some d => ck (wk o && Nat.blt d fn.ntmps) (bd (rc f fn.ntmps rest ⟨(envA caps 0 .lf).set d (some (.v .nilIface)), H, n, []⟩) fun r => match r.1, r.2.ds with
         | .exit _, _ => none
         | _, [] => some (r.2.H, r.2.n)
         | _, _ => none)
       | none => none)
     | _ => none)
  | _ => none
/-- the deferred calls, at the end -/
def qI (P : Tb) (rc : FuncId → Nat → Code → St → Option (Ex × St)) : List Df → Hp → Nat → Option (Hp × Nat)
  | [], H, n => some (H, n)
  | [.mark b], H, n => (match H.get b with
    | some .dfr => some (H.set b none, n)
    | _ => none)
  | [.call f caps], H, n => wC P rc f caps H n
  | _, _, _ => none
/-! regions that draw their order -/
/-- values that tell all -/
def ex0 : AV → Bool
  | .v _ | .ptr _ _ | .sl _ _ _ _ | .slo _ _ _ _ | .es _ _ _ _ | .map _ => true
  | _ => false
def ex1 : AV → Bool
  | .ifc _ x => ex0 x
  | .fn _ x y => x.all ex0 && y.all ex0
  | a => ex0 a
def ex2 : AV → Bool
  | .agg cs => cs.all ex1
  | .tup cs => cs.all ex1
  | a => ex1 a
def eqV : Value → Value → Bool
  | .bool a, .bool b => a == b
  | .int j a, .int k b => decide (j = k) && decide (a = b)
  | .string a, .string b => eqB a.data.toList b.data.toList
  | .pointer none, .pointer none | .nilIface, .nilIface | .nilFunc, .nilFunc | .map none, .map none => true
  | .pointer (some ⟨g, i, none⟩), .pointer (some ⟨h, j, none⟩) => Nat.beq g h && Nat.beq i j
  | .slice none a b, .slice none c d => Nat.beq a c && Nat.beq b d
  | .tuple a, .tuple b => a.toList.isEmpty && b.toList.isEmpty
  | _, _ => false
def eq0 : AV → AV → Bool
  | .v x, .v y => eqV x y
  | .ptr a b, .ptr c d => Nat.beq a c && Nat.beq b d
  | .sl a b c d, .sl e f g h => Nat.beq a e && (Nat.beq b f && (Nat.beq c g && Nat.beq d h))
  | .slo a b c d, .slo e f g h => Nat.beq a e && (Nat.beq b f && (Nat.beq c g && Nat.beq d h))
  | .es a b c d, .es e f g h => Nat.beq a e && (Nat.beq b f && (Nat.beq c g && Nat.beq d h))
  | .map a, .map b => Nat.beq a b
  | .yl, .yl => true
  | _, _ => false
def eqL (f : AV → AV → Bool) : List AV → List AV → Bool
  | [], [] => true
  | a :: l, b :: r => f a b && eqL f l r
  | _, _ => false
def eq1 : AV → AV → Bool
  | .ifc t x, .ifc u y => Nat.beq t u && eq0 x y
  | .fn (.func f) a b, .fn (.func g) c d => Nat.beq f g && (eqL eq0 a c && eqL eq0 b d)
  | a, b => eq0 a b
def eqE : List (AV × AV × Nat) → List (AV × AV × Nat) → Bool
  | [], [] => true
  | a :: l, b :: r => eq0 a.1 b.1 && (eq1 a.2.1 b.2.1 && (Nat.beq a.2.2 b.2.2 && eqE l r))
  | _, _ => false
def eqAO : AO → AO → Bool
  | .cells a e, .cells b f => Nat.beq e f && eqL eq1 a b
  | .map a c, .map b d => Nat.beq c d && eqE a b
  | _, _ => false
def eqO (a : AO) : Option AO → Bool
  | some b => eqAO a b
  | none => false
/-- what a quiet operation read: the operation, the block, what lay there -/
abbrev QRec := Nat × Nat × AO
/-- the operations that come before, as bits -/
def ancM : List Edge → List Nat → Nat
  | [], _ => 0
  | e :: l, A => bif Region.binds .any e then (1 <<< e.on) ||| (A.getD e.on 0 ||| ancM l A) else ancM l A
def ancs : List Oper → List Nat → List Nat
  | [], A => A
  | o :: l, A => ancs l (A ++ [ancM o.after.toList A])
/-- behind an effect: what is still to be kept -/
def qj (am : Nat) (recs : List QRec) (H : Hp) : Option (List QRec) :=
  let r := recs.filter fun x => !am.testBit x.1
  ck (r.all fun x => eqO x.2.2 (H.get x.2.1)) (some r)
/-- a quiet operation, taken first -/
def kQ (i : Nat) (l : List Oper) (ops : Array Oper) (R : Rn) (s : St) (recs : List QRec) : Option (St × List QRec) :=
  bd (l[i]?) fun o => ck (okD o.dst R.N) <|
    bif m9 o ops s.E then bd (opQ o.op R.P s.H.get s.E) fun r => (match r.2 with
      | none => some (⟨putA o.dst s.E r.1, s.H, s.n, s.ds⟩, recs)
      | some b => ck (ex2 r.1) (bd (s.H.get b) fun ao => some (⟨putA o.dst s.E r.1, s.H, s.n, s.ds⟩, (i, b, ao) :: recs)))
    else some (⟨putA o.dst s.E jH, s.H, s.n, s.ds⟩, recs)
/-- an operation that floats: the shape of the value, and the block -/
inductive FK where
  | ptr
  | sl (n : Nat)
  | map
def mkF (k : FK) (id : Nat) : AV := @FK.rec (fun _ => AV) (.ptr id 0) (fun n => .sl id 0 n n) (.map id) k
def flA (P : Tb) (op : Op) (E : Tr AV) : Option (FK × AO) :=
  match op with
  | .alloc t => bd (zrT P t) fun z0 => bd (celA z0) fun z => some (.ptr, .cells z t)
  | .box t x => bd (celA (rho x E)) fun z => some (.ptr, .cells z t)
  | .buildSlice t n ps => (match P.und t with
    | some (.slice e) => bd (zcA P e) fun z => ck (Nat.ble (n * z.length) 16777216) (bd (pw (fun i => some (i * z.length, z.length)) (repA n z) (eF (rhoE E) ps)) fun cs => some (.sl n, .cells cs e))
    | _ => none)
  | .makeMap t none => (match P.und t with
    | some (.map _ _) => some (.map, .map [] 0)
    | _ => none)
  | _ => none
/-- a plan is run -/
def runP (l : List Oper) (ops : Array Oper) (A : List Nat) (R : Rn) : List Pst → Option (Nat × FK × AO) → St → List QRec → Option St
  | [], none, s, _ => some s
  | .q i :: r, f, s, recs => bd (kQ i l ops R s recs) fun x => runP l ops A R r f x.1 x.2
  | .e i :: r, f, s, recs => bd (l[i]?) fun o => bd (jX o ops R s) fun s' => ck (Nat.ble s.n s'.n) (bd (qj (A.getD i 0) recs s'.H) fun recs' => runP l ops A R r f s' recs')
  | .o g :: r, none, s, recs => bd (l[g]?) fun o => ck (okD o.dst R.N) (bd (flA R.P o.op s.E) fun x => runP l ops A R r (some (g, x)) s recs)
  | .c :: r, some (g, x), s, recs => bd (l[g]?) fun o => runP l ops A R r none ⟨putA o.dst s.E (mkF x.1 s.n), s.H.set s.n (some x.2), s.n + 1, s.ds⟩ (recs.filter fun y => !(A.getD g 0).testBit y.1)
  | _, _, _, _ => none
/-- by the plan -/
def drP (P : Tb) (ex : Xf) (f : FuncId) (cl : Cl) (N id : Nat) (ops : Array Oper) (s : St) : Option St :=
  bd (P.pl.get f) fun t => bd (t.get id) fun pl => runP ops.toList ops (ancs ops.toList []) ⟨P, ex, cl, fun _ _ _ => none, N⟩ pl none s []
def endA (x : Ex) (k : Option (AV × Hp × Nat)) : Option (AV × Hp × Nat) := @Ex.rec (fun _ => Option (AV × Hp × Nat)) k (fun _ => none) k x
def ry (P : Tb) (ex : Xf) (dr : FuncId → Cl → Nat → Nat → Array Oper → St → Option St) (d : Nat) : Cl :=
  @Nat.rec (fun _ => Cl) (fun _ _ _ _ => none) (fun _ ih f args H n =>
    bd (P.fs.get f) fun fn => bd fn.body fun c => ck (Nat.ble args.length fn.ntmps)
    (bd (runC c ⟨P, ex, ih, dr f ih fn.ntmps, fn.ntmps⟩ ⟨envA args 0 .lf, H, n, []⟩) fun r =>
      endA r.1 (bd (qI P (fun f N c => runC c ⟨P, ex, ih, dr f ih N, N⟩) r.2.ds r.2.H r.2.n) fun q => bd (resA P r.2.E q.1 fn.results.toList) fun vs => some (retA vs, q.1, q.2)))) d
end
end Fw
end Go.Proofs.YtogmioecalmalaaGreat
namespace Go.Proofs.YtogmioecalmalaaGreat
namespace Fw
set_option linter.unusedVariables false
set_option linter.unusedSimpArgs false
set_option linter.unusedSectionVars false
open Go.RowKit

/-! ### trees by numbers -/
namespace Tr
variable {α : Type}
theorem beq_iff {a b : Nat} : Nat.beq a b = true ↔ a = b := ⟨Nat.eq_of_beq_eq_true, fun h => by subst h; exact Nat.beq_refl _⟩
theorem beq_ff {a b : Nat} (h : a ≠ b) : Nat.beq a b = false := by
  cases hb : Nat.beq a b with
  | false => rfl
  | true => exact absurd (Nat.eq_of_beq_eq_true hb) h
theorem get_nd (l r : Tr α) (x : Option α) (n : Nat) : (Tr.nd l x r).get n = if n = 0 then x else if n % 2 = 1 then l.get (n / 2) else r.get (n / 2 - 1) := by
  show @Bool.rec (fun _ => Option α) (@Bool.rec (fun _ => Option α) (r.get (n / 2 - 1)) (l.get (n / 2)) (Nat.beq (n % 2) 1)) x (Nat.beq n 0) = _
  by_cases h : n = 0
  · rw [beq_iff.2 h, if_pos h]
  · rw [beq_ff h, if_neg h]
    by_cases h1 : n % 2 = 1
    · rw [beq_iff.2 h1, if_pos h1]
    · rw [beq_ff h1, if_neg h1]
theorem yF (v : Option α) (f n : Nat) : one v (f + 1) n = if n = 0 then .nd .lf v .lf else if n % 2 = 1 then .nd (one v f (n / 2)) none .lf else .nd .lf none (one v f (n / 2 - 1)) := by
  show @Bool.rec (fun _ => Tr α) (@Bool.rec (fun _ => Tr α) (.nd .lf none (one v f (n / 2 - 1))) (.nd (one v f (n / 2)) none .lf) (Nat.beq (n % 2) 1)) (.nd .lf v .lf) (Nat.beq n 0) = _
  by_cases h : n = 0
  · rw [beq_iff.2 h, if_pos h]
  · rw [beq_ff h, if_neg h]
    by_cases h1 : n % 2 = 1
    · rw [beq_iff.2 h1, if_pos h1]
    · rw [beq_ff h1, if_neg h1]
theorem zE (l r : Tr α) (x v : Option α) (n : Nat) : (Tr.nd l x r).set n v = if n = 0 then .nd l v r else if n % 2 = 1 then .nd (l.set (n / 2) v) x r else .nd l x (r.set (n / 2 - 1) v) := by
  show @Bool.rec (fun _ => Tr α) (@Bool.rec (fun _ => Tr α) (.nd l x (r.set (n / 2 - 1) v)) (.nd (l.set (n / 2) v) x r) (Nat.beq (n % 2) 1)) (.nd l v r) (Nat.beq n 0) = _
  by_cases h : n = 0
  · rw [beq_iff.2 h, if_pos h]
  · rw [beq_ff h, if_neg h]
    by_cases h1 : n % 2 = 1
    · rw [beq_iff.2 h1, if_pos h1]
    · rw [beq_ff h1, if_neg h1]
theorem xJ (m : Nat) : (Tr.lf : Tr α).get m = none := rfl
theorem qM (v : Option α) : ∀ (f n m : Nat), n < f → (one v f n).get m = if m = n then v else none
  | 0, n, m, h => by omega
  | f + 1, n, m, h => by
    rw [yF]
    by_cases h0 : n = 0
    · rw [if_pos h0, get_nd, h0]; simp [xJ]
    · rw [if_neg h0]
      by_cases h1 : n % 2 = 1
      · rw [if_pos h1, get_nd]
        by_cases hm : m = 0
        · rw [if_pos hm, if_neg (by omega)]
        · rw [if_neg hm]
          by_cases hm1 : m % 2 = 1
          · rw [if_pos hm1, qM v f _ _ (by omega)]
            by_cases he : m = n
            · subst he; simp
            · rw [if_neg he, if_neg (by omega)]
          · rw [if_neg hm1, if_neg (by omega)]; rfl
      · rw [if_neg h1, get_nd]
        by_cases hm : m = 0
        · rw [if_pos hm, if_neg (by omega)]
        · rw [if_neg hm]
          by_cases hm1 : m % 2 = 1
          · rw [if_pos hm1, if_neg (by omega)]; rfl
          · rw [if_neg hm1, qM v f _ _ (by omega)]
            by_cases he : m = n
            · subst he; simp
            · rw [if_neg he, if_neg (by omega)]
theorem get_set : ∀ (t : Tr α) (n : Nat) (v : Option α) (m : Nat), (t.set n v).get m = if m = n then v else t.get m
  | .lf, n, v, m => qM v (n + 1) n m (Nat.lt_succ_self n)
  | .nd l x r, n, v, m => by
    rw [zE, get_nd l r x m]
    by_cases h0 : n = 0
    · rw [if_pos h0, get_nd, h0]
      by_cases hm : m = 0
      · rw [if_pos hm, if_pos hm]
      · rw [if_neg hm, if_neg hm, if_neg hm]
    · rw [if_neg h0]
      by_cases h1 : n % 2 = 1
      · rw [if_pos h1, get_nd]
        by_cases hm : m = 0
        · rw [if_pos hm, if_neg (by omega), if_pos hm]
        · rw [if_neg hm, if_neg hm]
          by_cases hm1 : m % 2 = 1
          · rw [if_pos hm1, if_pos hm1, get_set l]
            by_cases he : m = n
            · subst he; simp
            · rw [if_neg he, if_neg (by omega)]
          · rw [if_neg hm1, if_neg hm1, if_neg (by omega)]
      · rw [if_neg h1, get_nd]
        by_cases hm : m = 0
        · rw [if_pos hm, if_neg (by omega), if_pos hm]
        · rw [if_neg hm, if_neg hm]
          by_cases hm1 : m % 2 = 1
          · rw [if_pos hm1, if_pos hm1, if_neg (by omega)]
          · rw [if_neg hm1, if_neg hm1, get_set r]
            by_cases he : m = n
            · subst he; simp
            · rw [if_neg he, if_neg (by omega)]
theorem get_lf (m : Nat) : (Tr.lf : Tr α).get m = none := rfl
end Tr

theorem ab {α β : Type} {x : Option α} {f : α → Option β} {r : β} (h : bd x f = some r) : ∃ a, x = some a ∧ f a = some r := by
  cases x with
  | none => cases h
  | some a => exact ⟨a, rfl, h⟩
theorem aN {α : Type} {c : Bool} {x : Option α} {r : α} (h : ck c x = some r) : c = true ∧ x = some r := by
  cases c with
  | false => cases h
  | true => exact ⟨rfl, h⟩
theorem nX {α : Type} {P : Program} : ∀ {s : Sem α} {a : α}, prun P s = some a → ∀ w, s.run P w = .ok a w
  | .pure _, _, h, _ => by cases h; rfl
  | .program k, _, h, w => nX (s := k P) h w
  | .mark _ k, _, h, w => nX (s := k) h w
  | .choose q k, a, h, w => by
    unfold prun at h
    cases hq : q.forced with
    | false => rw [hq] at h; cases h
    | true =>
      rw [hq] at h
      simp only [Sem.run, hq, if_true]
      exact nX (s := k 0) h w
  | .load _ _ _, _, h, _ => by cases h
  | .store _ _ _ _, _, h, _ => by cases h
  | .new _ _, _, h, _ => by cases h
  | .shape _ _, _, h, _ => by cases h
  | .freeze _ _ _, _, h, _ => by cases h
  | .frozen _ _, _, h, _ => by cases h
  | .getObj _ _, _, h, _ => by cases h
  | .setObj _ _ _, _, h, _ => by cases h
  | .sys _ _, _, h, _ => by cases h
  | .halt _, _, h, _ => by cases h

/-! ### values -/
/-- where a block lies: its number, the place of its first cell, its length -/
abbrev Pl := Nat × Nat × Nat
abbrev Bt := Nat → Option Pl
def Bt.le (β γ : Bt) : Prop := ∀ i p, β i = some p → γ i = some p
theorem Bt.le.refl (β : Bt) : β.le β := fun _ _ h => h
theorem Bt.le.trans {β γ δ : Bt} (h : β.le γ) (h' : γ.le δ) : β.le δ := fun i p hi => h' i p (h i p hi)

mutual
inductive VR (β : Bt) : AV → Value → Prop
  | v (x : Value) : VR β (.v x) x
  | ptr {b off g k m : Nat} (h : β b = some (g, k, m)) : VR β (.ptr b off) (.pointer (some ⟨g, k + off, none⟩))
  | slc {b off len c g k m : Nat} (h : β b = some (g, k, m)) : VR β (.sl b off len c) (.slice (some ⟨g, k + off, none⟩) len c)
  | slo {b off len z c g k m : Nat} (h : β b = some (g, k, m)) (hl : len ≤ c) (hc : k + off + c * z = m) (hm : c ≤ maxLen) (hz : 0 < z) : VR β (.slo b off len z) (.slice (some ⟨g, k + off, none⟩) len c)
  | es {b off n z c g k m : Nat} (h : β b = some (g, k, m)) (hc : k + off + (n + c) * z = m) (hm : c ≤ maxLen) (hz : 0 < z) : VR β (.es b off n z) (.slice (some ⟨g, if c = 0 then k + off else k + off + n * z, none⟩) 0 c)
  | map {b g k m : Nat} (h : β b = some (g, k, m)) : VR β (.map b) (.map (some g))
  | fn {f : Fn} {first caps : List AV} {x y : List Value} (h1 : VRs β first x) (h2 : VRs β caps y) : VR β (.fn f first caps) (.func f x.toArray y.toArray)
  | ifc {t : TypeId} {a : AV} {x : Value} (h : VR β a x) : VR β (.ifc t a) (.iface t x)
  | yl (l : Nat) : VR β .yl (.func (.yield l) #[] #[])
  | agg {cs : List AV} {x : List Value} (h : VRs β cs x) : VR β (.agg cs) (.agg x.toArray)
  | tup {cs : List AV} {x : List Value} (h : VRs β cs x) : VR β (.tup cs) (.tuple x.toArray)
inductive VRs (β : Bt) : List AV → List Value → Prop
  | nil : VRs β [] []
  | cons {a : AV} {l : List AV} {v : Value} {r : List Value} (h : VR β a v) (t : VRs β l r) : VRs β (a :: l) (v :: r)
end
mutual
theorem VR.mono {β γ : Bt} (hs : β.le γ) : ∀ {a : AV} {v : Value}, VR β a v → VR γ a v
  | _, _, .v x => .v x
  | _, _, .ptr h => .ptr (hs _ _ h)
  | _, _, .slc h => .slc (hs _ _ h)
  | _, _, .slo h hl hc hm hz => .slo (hs _ _ h) hl hc hm hz
  | _, _, .es h hc hm hz => .es (hs _ _ h) hc hm hz
  | _, _, .map h => .map (hs _ _ h)
  | _, _, .fn h1 h2 => .fn (VRs.mono hs h1) (VRs.mono hs h2)
  | _, _, .ifc h => .ifc (VR.mono hs h)
  | _, _, .yl l => .yl l
  | _, _, .agg h => .agg (VRs.mono hs h)
  | _, _, .tup h => .tup (VRs.mono hs h)
theorem VRs.mono {β γ : Bt} (hs : β.le γ) : ∀ {a : List AV} {v : List Value}, VRs β a v → VRs γ a v
  | _, _, .nil => .nil
  | _, _, .cons h t => .cons (VR.mono hs h) (VRs.mono hs t)
end
section
variable {β : Bt}
theorem VRs.len : ∀ {l : List AV} {r : List Value}, VRs β l r → l.length = r.length
  | _, _, .nil => rfl
  | _, _, .cons _ t => by simp [t.len]
theorem VRs.get : ∀ {l : List AV} {r : List Value}, VRs β l r → ∀ {i : Nat} {a : AV}, l[i]? = some a → ∃ v, r[i]? = some v ∧ VR β a v
  | _, _, .nil, i, a, h => by simp at h
  | _, _, .cons h t, 0, a, ha => by simp only [List.getElem?_cons_zero, Option.some.injEq] at ha; subst ha; exact ⟨_, rfl, h⟩
  | _, _, .cons h t, i + 1, a, ha => by simpa using t.get (i := i) (by simpa using ha)
theorem VRs.app : ∀ {l : List AV} {r : List Value} {l' : List AV} {r' : List Value}, VRs β l r → VRs β l' r' → VRs β (l ++ l') (r ++ r')
  | _, _, _, _, .nil, h => h
  | _, _, _, _, .cons a t, h => .cons a (t.app h)
theorem VRs.drop : ∀ {l : List AV} {r : List Value}, VRs β l r → ∀ n, VRs β (l.drop n) (r.drop n)
  | _, _, .nil, n => by simp only [List.drop_nil]; exact .nil
  | _, _, .cons h t, 0 => .cons h t
  | _, _, .cons h t, n + 1 => t.drop n
theorem VRs.take : ∀ {l : List AV} {r : List Value}, VRs β l r → ∀ n, VRs β (l.take n) (r.take n)
  | _, _, .nil, n => by simp only [List.take_nil]; exact .nil
  | _, _, .cons h t, 0 => .nil
  | _, _, .cons h t, n + 1 => .cons h (t.take n)
theorem VRs.map {ι : Type} {f : ι → AV} {g : ι → Value} (h : ∀ i, VR β (f i) (g i)) : ∀ l : List ι, VRs β (l.map f) (l.map g)
  | [] => .nil
  | x :: l => .cons (h x) (VRs.map h l)
/-- values that name no block -/
theorem VRs.vs : ∀ l : List Value, VRs β (l.map .v) l
  | [] => .nil
  | x :: l => .cons (.v x) (VRs.vs l)
theorem VRs.of_get : ∀ {l : List AV} {r : List Value}, l.length = r.length → (∀ (i : Nat) (a : AV) (v : Value), l[i]? = some a → r[i]? = some v → VR β a v) → VRs β l r
  | [], [], _, _ => .nil
  | [], _ :: _, h, _ => by cases h
  | _ :: _, [], h, _ => by cases h
  | a :: l, v :: r, h, k => .cons (k 0 a v rfl rfl) (VRs.of_get (by simpa using h) fun i a v ha hv => k (i + 1) a v (by simpa using ha) (by simpa using hv))
theorem tn (x : Value) : VR β (ofV x) x := by
  unfold ofV
  split
  · rename_i cs
    have := VRs.vs (β := β) cs.toList
    have h := VR.agg this
    simpa using h
  · exact .v x
theorem yR {a : AV} {v : Value} (h : VR β a v) (ho : oneA a = true) : v.oneCell' = true := by
  cases h <;> first | exact ho | rfl | cases ho
/-- cells: each a value of one cell -/
structure CR (β : Bt) (l : List AV) (r : List Value) : Prop where
  rel : VRs β l r
  one : ∀ v ∈ r, v.oneCell' = true
theorem CR.mono {γ : Bt} {l : List AV} {r : List Value} (h : CR β l r) (hs : β.le γ) : CR γ l r := ⟨h.rel.mono hs, h.one⟩
theorem CR.app {l l' : List AV} {r r' : List Value} (h : CR β l r) (h' : CR β l' r') : CR β (l ++ l') (r ++ r') :=
  ⟨h.rel.app h'.rel, fun v hv => (List.mem_append.1 hv).elim (h.one v) (h'.one v)⟩
theorem ul : ∀ {l : List AV} {r : List Value}, VRs β l r → l.all oneA = true → ∀ v ∈ r, v.oneCell' = true
  | _, _, .nil, _, v, hv => by cases hv
  | _, _, .cons h t, ha, v, hv => by
    simp only [List.all_cons, Bool.and_eq_true] at ha
    rcases List.mem_cons.1 hv with rfl | hv
    · exact yR h ha.1
    · exact ul t ha.2 v hv
theorem je {a : AV} {v : Value} {l : List AV} (h : VR β a v) (hc : celA a = some l) : CR β l v.cells.toList := by
  cases h with
  | agg h =>
    obtain ⟨h1, h2⟩ := aN hc
    cases h2
    exact ⟨by simpa [Value.cells] using h, by simpa [Value.cells] using ul h h1⟩
  | v =>
    obtain ⟨h1, h2⟩ := aN hc
    cases h2
    have : v.cells = #[v] := by
      have h3 : v.oneCell' = true := h1
      cases v <;> first | rfl | cases h3
    rw [this]
    exact ⟨.cons (.v v) .nil, by intro u hv; simp at hv; subst hv; exact h1⟩
  | @tup cs x h =>
    have hc' : ck (oneA (.tup cs)) (some [AV.tup cs]) = some l := hc
    obtain ⟨h1, h2⟩ := aN hc'; cases h1
  | ptr h => cases hc; exact ⟨.cons (.ptr h) .nil, by intro v hv; simp [Value.cells] at hv; subst hv; rfl⟩
  | slc h => cases hc; exact ⟨.cons (.slc h) .nil, by intro v hv; simp [Value.cells] at hv; subst hv; rfl⟩
  | slo h h1 h2 h3 h4 => cases hc; exact ⟨.cons (.slo h h1 h2 h3 h4) .nil, by intro v hv; simp [Value.cells] at hv; subst hv; rfl⟩
  | es h h1 h2 h3 => cases hc; exact ⟨.cons (.es h h1 h2 h3) .nil, by intro v hv; simp [Value.cells] at hv; subst hv; rfl⟩
  | map h => cases hc; exact ⟨.cons (.map h) .nil, by intro v hv; simp [Value.cells] at hv; subst hv; rfl⟩
  | ifc h => cases hc; exact ⟨.cons (.ifc h) .nil, by intro v hv; simp [Value.cells] at hv; subst hv; rfl⟩
  | yl l => cases hc; exact ⟨.cons (.yl l) .nil, by intro v hv; simp [Value.cells] at hv; subst hv; rfl⟩
  | fn h1 h2 => cases hc; exact ⟨.cons (.fn h1 h2) .nil, by intro v hv; simp [Value.cells] at hv; subst hv; rfl⟩
theorem wY {a : AV} {v x : Value} (h : VR β a v) (ht : toV a = some x) : v = x := by
  cases h with
  | v y => cases ht; rfl
  | agg h =>
    unfold toV at ht
    obtain ⟨l, h1, h2⟩ := ab ht
    cases h2
    have key : ∀ {cs : List AV} {r l : List Value}, VRs β cs r → cs.foldr (fun a r => match a, r with | .v x, some l => some (x :: l) | _, _ => none) (some []) = some l → r = l := by
      intro cs
      induction cs with
      | nil => intro r l hr hl; cases hr; cases hl; rfl
      | cons a cs ih =>
        intro r l hr hl
        cases hr with
        | cons ha t =>
          simp only [List.foldr_cons] at hl
          split at hl
          · rename_i x l' he
            cases hl
            cases ha
            rw [ih t he]
          · cases hl
    rw [key h h1]
  | _ => cases ht
end

theorem VR.vinv {β : Bt} {x y : Value} (h : VR β (.v x) y) : y = x := by cases h; rfl

/-! ### blocks -/
def ER (β : Bt) : List (AV × AV × Nat) → List MapEntry → Prop
  | [], [] => True
  | a :: l, e :: r => (VR β a.1 e.key ∧ VR β a.2.1 e.val ∧ a.2.2 = e.born) ∧ ER β l r
  | _, _ => False
theorem ER.mono {β γ : Bt} (hs : β.le γ) : ∀ {l : List (AV × AV × Nat)} {r : List MapEntry}, ER β l r → ER γ l r
  | [], [], _ => trivial
  | [], _ :: _, h => h.elim
  | _ :: _, [], h => h.elim
  | _ :: _, _ :: _, ⟨⟨h1, h2, h3⟩, h4⟩ => ⟨⟨h1.mono hs, h2.mono hs, h3⟩, ER.mono hs h4⟩
/-- a row of cells from k on -/
structure OC (β : Bt) (p : Pl) (cs : List AV) (arr : Array Value) (fz : Nat × Nat) : Prop where
  size : arr.size = p.2.2
  free : ∀ j, j < arr.size → nfz fz j
  get : ∀ j a, cs[j]? = some a → ∃ v, arr[p.2.1 + j]? = some v ∧ VR β a v ∧ v.oneCell' = true
def OR (P : Program) (β : Bt) (p : Option Pl) : Option AO → Rowb → Prop
  | none, row => row = []
  | some (.cells cs e), row => ∃ q arr fz, p = some q ∧ row = [(q.1, .cells arr e fz)] ∧ OC β q cs arr fz
  | some (.map es c), row => ∃ g arr, p = some (g, 0, 0) ∧ row = [(g, .map arr c)] ∧ ER β es arr.toList
  | some (.miter none s sn l), row => ∃ g, p = some (g, 0, 0) ∧ row = [(g, .mapIter none s sn.toArray l)]
  | some (.miter (some m) s sn l), row => ∃ g q, p = some (g, 0, 0) ∧ β m = some q ∧ row = [(g, .mapIter (some q.1) s sn.toArray l)]
  | some (.siter s k), row => ∃ g, p = some (g, 0, 0) ∧ row = [(g, .stringIter s k)]
  | some .dfr, row => ∃ g, p = some (g, 0, 0) ∧ row = [(g, .deferred (some []))]
theorem OR.mono {P : Program} {β γ : Bt} (hs : β.le γ) {p : Option Pl} {o : Option AO} {row : Rowb} (h : OR P β p o row) : OR P γ p o row := by
  cases o with
  | none => exact h
  | some o =>
    cases o with
    | cells cs e =>
      obtain ⟨q, arr, fz, h1, h2, h4⟩ := h
      exact ⟨q, arr, fz, h1, h2, h4.size, h4.free, fun j a hj => let ⟨v, a1, a2, a3⟩ := h4.get j a hj; ⟨v, a1, a2.mono hs, a3⟩⟩
    | map es c => obtain ⟨g, arr, h1, h2, h3⟩ := h; exact ⟨g, arr, h1, h2, h3.mono hs⟩
    | miter m s sn l =>
      cases m with
      | none => exact h
      | some m => obtain ⟨g, q, h1, h2, h3⟩ := h; exact ⟨g, q, h1, hs _ _ h2, h3⟩
    | siter s k => exact h
    | dfr => exact h
theorem OR.pl {P : Program} {β : Bt} {p p' : Option Pl} {o : AO} {row : Rowb} (h : OR P β p (some o) row) : ∃ q, p = some q := by
  cases o with
  | cells cs e => obtain ⟨q, _, _, h1, _⟩ := h; exact ⟨q, h1⟩
  | map es c => obtain ⟨g, _, h1, _⟩ := h; exact ⟨_, h1⟩
  | miter m s sn l =>
    cases m with
    | none => obtain ⟨g, h1, _⟩ := h; exact ⟨_, h1⟩
    | some m => obtain ⟨g, q, h1, _⟩ := h; exact ⟨_, h1⟩
  | siter s k => obtain ⟨g, h1, _⟩ := h; exact ⟨_, h1⟩
  | dfr => obtain ⟨g, h1, _⟩ := h; exact ⟨_, h1⟩

/-- the rows are the blocks -/
structure MH (P : Program) (β : Bt) (H : Hf) (n : Nat) (L : List Rowb) : Prop where
  len : L.length = n
  new : ∀ i, n ≤ i → β i = none
  row : ∀ i row, L[i]? = some row → OR P β (β i) (H i) row
  out : ∀ i, n ≤ i → H i = none
theorem MH.at_ {P : Program} {β : Bt} {H : Hf} {n : Nat} {L : List Rowb} (h : MH P β H n L) {i : Nat} {o : AO} (hi : H i = some o) : ∃ row, L[i]? = some row ∧ OR P β (β i) (some o) row := by
  have hlt : i < L.length := by
    rw [h.len]
    rcases Nat.lt_or_ge i n with h1 | h1
    · exact h1
    · rw [h.out i h1] at hi; cases hi
  refine ⟨L[i], List.getElem?_eq_getElem hlt, ?_⟩
  have := h.row i L[i] (List.getElem?_eq_getElem hlt)
  rwa [hi] at this
end Fw
end Go.Proofs.YtogmioecalmalaaGreat
namespace Go.Proofs.YtogmioecalmalaaGreat
namespace Fw
set_option linter.unusedVariables false
set_option linter.unusedSimpArgs false
set_option linter.unusedSectionVars false
open Go.RowKit
/-- the tables tell the program -/
 class TbOK (T : Tb) (P : outParam Program) : Prop where
  prog : T.prog = P
  fs : ∀ f fn, T.fs.get f = some fn → P.funcs[f]? = some fn
  ts : ∀ t i, T.ts.get t = some i → P.info? t = some i
  call : ∀ f fn, T.fs.get f = some fn → ∀ args w, (callFunc f args).run P w = .ok (.enter f args) w
section
variable {T : Tb} {P : Program} [TbOK T P] {β : Bt} {w : World}
theorem tb {α : Type} {s : Sem α} {a : α} (h : prun T.prog s = some a) (w : World) : s.run P w = .ok a w := by
  have h1 := nX h w
  rwa [TbOK.prog (T := T) (P := P)] at h1
theorem k8 {t : TypeId} {i : TypeInfo} (h : T.inf t = some i) : P.info? t = some i := TbOK.ts (T := T) t i h
theorem fm {t : TypeId} {d : TypeDesc} (h : T.und t = some d) : P.underlying t = some d := by
  unfold Tb.und at h
  cases hi : T.ts.get t with
  | none => rw [hi] at h; cases h
  | some i =>
    rw [hi] at h
    have h1 := TbOK.ts (T := T) (P := P) t i hi
    unfold Program.underlying
    rw [h1]
    simp only at h
    split at h
    · rename_i n u hd
      cases hj : T.ts.get u with
      | none => rw [hj] at h; cases h
      | some j =>
        rw [hj] at h
        have h2 := TbOK.ts (T := T) (P := P) u j hj
        cases i
        simp only at hd
        subst hd
        simp only [h2, Option.map_some]
        exact h
    · rename_i d' hne
      cases i
      simp only at h hne ⊢
      cases h
      split
      · rename_i n u _ _ _ _ _ _ _ _ _ he
        injection he with he
        injection he with he1
        exact (hne _ _ he1).elim
      · rename_i i he
        injection he with he
        rw [← he]
      · rename_i he; cases he
theorem aA {t : TypeId} {d : TypeDesc} (h : T.und t = some d) (w : World) : (underlying t).run P w = .ok d w := run_underlying (fm h) w

/-! ### types -/
theorem eE {t : TypeId} {n : Nat} (h : szT T t = some n) (w : World) : (sizeOf t).run P w = .ok n w := by
  obtain ⟨i, hi, e⟩ := ab h
  cases e
  have hi := k8 (P := P) hi
  simp [sizeOf, typeInfo, hi]
theorem wA {t : TypeId} {n : Nat} (h : szT T t = some n) : ∃ i, P.info? t = some i ∧ i.size = n := by
  obtain ⟨i, hi, e⟩ := ab h
  cases e
  exact ⟨i, k8 hi, rfl⟩
theorem li {t : TypeId} {a : AV} (h : zrT T t = some a) : ∃ v i, P.info? t = some i ∧ i.zero = some v ∧ VR β a v ∧ a = ofV v ∧ ∀ w, (zeroValue t).run P w = .ok v w := by
  obtain ⟨i, hi, e⟩ := ab h
  obtain ⟨v, hv, e⟩ := ab e
  cases e
  have hi := k8 (P := P) hi
  exact ⟨v, i, hi, hv, tn v, rfl, fun w => by simp [zeroValue, typeInfo, hi, hv]⟩
theorem wd {t : TypeId} {b : Bool} {n : Nat} (h : rdT T t = some (b, n)) : (∀ w, (isAgg t).run P w = .ok b w) ∧ (∀ w, (sizeOf t).run P w = .ok n w) := by
  unfold rdT at h
  split at h
  · rename_i hu hi
    cases h
    have hi := k8 (P := P) hi
    exact ⟨fun w => by simp [isAgg, aA hu], fun w => by simp [sizeOf, typeInfo, hi]⟩
  · rename_i hu hi
    cases h
    have hi := k8 (P := P) hi
    exact ⟨fun w => by simp [isAgg, aA hu], fun w => by simp [sizeOf, typeInfo, hi]⟩
  · rename_i d i h1 h2 hu hi
    cases h
    have hi := k8 (P := P) hi
    refine ⟨fun w => ?_, fun w => by simp [sizeOf, typeInfo, hi]⟩
    cases d <;> first
      | exact (h1 _ rfl).elim | exact (h2 _ _ rfl).elim | simp [isAgg, aA hu]
  · cases h

/-! ### cells -/
theorem uy {cs l : List AV} {o n : Nat} (h : cut cs o n = some l) : l = (cs.drop o).take n ∧ l.length = n := by
  obtain ⟨h1, h2⟩ := aN h
  cases h2
  exact ⟨rfl, Nat.eq_of_beq_eq_true h1⟩
theorem OC.cut {p : Pl} {cs : List AV} {arr : Array Value} {fz : Nat × Nat} (hc : OC β p cs arr fz) {o n : Nat} {l : List AV} (h : cut cs o n = some l) : ∃ vs : List Value, vs.length = n ∧ CR β l vs ∧ ∀ (j : Nat) (v : Value), vs[j]? = some v → arr[p.2.1 + o + j]? = some v := by
  obtain ⟨rfl, hlen⟩ := uy h
  have hget : ∀ (j : Nat) (a : AV), ((cs.drop o).take n)[j]? = some a → ∃ v, ((arr.toList.drop (p.2.1 + o)).take n)[j]? = some v ∧ VR β a v ∧ v.oneCell' = true := by
    intro j a hj
    have hjn : j < n := by have := (List.getElem?_eq_some_iff.1 hj).1; omega
    rw [List.getElem?_take, if_pos hjn, List.getElem?_drop] at hj
    obtain ⟨v, hv, h3, h4⟩ := hc.get (o + j) a hj
    refine ⟨v, ?_, h3, h4⟩
    rw [List.getElem?_take, if_pos hjn, List.getElem?_drop, Array.getElem?_toList, ← hv]
    congr 1; omega
  have hvl : ((arr.toList.drop (p.2.1 + o)).take n).length = n := by
    have hle : ((arr.toList.drop (p.2.1 + o)).take n).length ≤ n := by simp; omega
    rcases Nat.eq_zero_or_pos n with h0 | h0
    · omega
    · obtain ⟨v, hv, _⟩ := hget (n - 1) _ (List.getElem?_eq_getElem (by omega))
      have := (List.getElem?_eq_some_iff.1 hv).1
      omega
  refine ⟨_, hvl, ⟨VRs.of_get (by rw [hlen, hvl]) fun i a v ha hv => ?_, fun v hv => ?_⟩, fun j v hj => ?_⟩
  · obtain ⟨v', h1, h2, _⟩ := hget i a ha
    rw [h1] at hv; cases hv; exact h2
  · obtain ⟨i, hi, rfl⟩ := List.getElem_of_mem hv
    obtain ⟨v', h1, _, h3⟩ := hget i _ (List.getElem?_eq_getElem (by omega))
    rw [List.getElem?_eq_getElem hi] at h1
    cases h1; exact h3
  · have hjn : j < n := by have := (List.getElem?_eq_some_iff.1 hj).1; omega
    rw [List.getElem?_take, if_pos hjn, List.getElem?_drop, Array.getElem?_toList] at hj
    exact hj
theorem sL {p : Pl} {cs : List AV} {arr : Array Value} {e t : TypeId} {fz : Nat × Nat} (hc : OC β p cs arr fz) {o : Nat} {a : AV} (h : rdC T t cs o = some a) :
    ∃ v, VR β a v ∧ ∀ w, w.heap[p.1]? = some (.cells arr e fz) → (loadVar t ⟨p.1, p.2.1 + o, none⟩).run P w = .ok v w := by
  obtain ⟨⟨b, n⟩, hb, h⟩ := ab h
  obtain ⟨h1, h2⟩ := wd hb
  cases b with
  | true =>
    obtain ⟨l, hl, h⟩ := ab h
    cases h
    obtain ⟨vs, g1, g2, g3⟩ := hc.cut hl
    refine ⟨.agg vs.toArray, .agg g2.rel, fun w hw => ?_⟩
    have := run_loadCells_list (P := P) w ⟨p.1, p.2.1 + o, none⟩ vs (fun j v hj => by rw [aR, cell_of_row w _ _ arr e fz hw]; exact g3 j v hj)
    rw [g1] at this
    simp [loadVar, h1, h2, this]
  | false =>
    obtain ⟨v, g1, g2, _⟩ := hc.get o a h
    refine ⟨v, g2, fun w hw => ?_⟩
    have hcell := cell_of_row w p.1 (p.2.1 + o) arr e fz hw
    rw [g1] at hcell
    simp [loadVar, h1, load, Sem.run, hcell]
theorem uA {cs : List AV} {xs : List Value} (hc : VRs β cs xs) {t : TypeId} {o : Nat} {a : AV} (h : rdC T t cs o = some a) :
    ∃ v, VR β a v ∧ ∀ w, (part t xs.toArray o).run P w = .ok v w := by
  obtain ⟨⟨b, n⟩, hb, h⟩ := ab h
  obtain ⟨h1, h2⟩ := wd hb
  cases b with
  | true =>
    obtain ⟨l, hl, h⟩ := ab h
    cases h
    obtain ⟨rfl, _⟩ := uy hl
    refine ⟨.agg ((xs.drop o).take n).toArray, .agg ((hc.drop o).take n), fun w => ?_⟩
    simp [part, h1, h2, List.extract_toArray, List.extract_eq_drop_take']
  | false =>
    obtain ⟨v, g1, g2⟩ := hc.get h
    refine ⟨v, g2, fun w => ?_⟩
    simp [part, h1, g1]

/-! ### bounds -/
theorem oy {a : AV} {x : Value} {n k : Nat} (hv : VR β a x) (h : ixI a n = some k) : ∃ kd, x = .int kd (k : Int) ∧ k < n := by
  unfold ixI at h
  split at h
  · rename_i kd i
    cases hv
    cases hb : (decide (0 ≤ i) && decide (i < (n : Int))) with
    | false => rw [hb] at h; cases h
    | true =>
      rw [hb] at h; cases h
      have h1 := of_decide_eq_true (av hb); have h2 := of_decide_eq_true (ap hb)
      exact ⟨kd, by rw [Int.toNat_of_nonneg h1], by omega⟩
  · cases h
theorem fv {a : AV} {x : Value} {d n n' k : Nat} (hv : VR β a x) (h : bnI (some a) d n = some k) (hn : n ≤ n') (code : BoundsCode) (w : World) : (Instr.sliceBound x n' code).run P w = .ok k w ∧ k ≤ n := by
  unfold bnI at h
  split at h
  · rename_i he; cases he
  · rename_i kd i he
    cases he
    cases hv
    cases hb : (decide (0 ≤ i) && decide (i ≤ (n : Int))) with
    | false => rw [hb] at h; cases h
    | true =>
      rw [hb] at h; cases h
      have h1 := of_decide_eq_true (av hb); have h2 := of_decide_eq_true (ap hb)
      have h3 : i ≤ (n' : Int) := by omega
      exact ⟨by simp [Instr.sliceBound, asIntOf, h1, h3], by omega⟩
  · cases h
variable {ρA : Operand → AV} {ρ : Operand → Value}
theorem jl (hρ : ∀ x, VR β (ρA x) (ρ x)) {lo hi mx : Option Operand} {n c c' l h m : Nat} (hb : bnds ρA lo hi mx n c = some (l, h, m)) (hc : c ≤ c') (hm : mx.isNone = true ∨ c = c') (is : Bool) (w : World) :
    (Instr.sliceBounds is n c' (lo.map ρ) (hi.map ρ) (mx.map ρ)).run P w = .ok (l, h, if mx.isNone then c' else m) w ∧ l ≤ h ∧ (mx.isNone = true → m = c) := by
  unfold bnds at hb
  split at hb
  · cases hb
  · rename_i hne
    obtain ⟨m', hm', hb⟩ := ab hb
    obtain ⟨h', hh', hb⟩ := ab hb
    obtain ⟨l', hl', hb⟩ := ab hb
    cases hb
    cases mx with
    | none =>
      cases hm'
      cases hi with
      | none =>
        cases hh'
        cases lo with
        | none => cases hl'; exact ⟨by simp [Instr.sliceBounds], Nat.zero_le _, fun _ => rfl⟩
        | some y =>
          have h1 := fun code => fv (P := P) (hρ y) hl' (Nat.le_refl _) code w
          exact ⟨by simp [Instr.sliceBounds, (h1 _).1], (h1 .sliceB).2, fun _ => rfl⟩
      | some z =>
        have h2 := fun code => fv (P := P) (hρ z) hh' hc code w
        cases lo with
        | none => cases hl'; exact ⟨by simp [Instr.sliceBounds, (h2 _).1], Nat.zero_le _, fun _ => rfl⟩
        | some y =>
          have h1 := fun code => fv (P := P) (hρ y) hl' (Nat.le_refl _) code w
          exact ⟨by simp [Instr.sliceBounds, (h1 _).1, (h2 _).1], (h1 .sliceB).2, fun _ => rfl⟩
    | some u =>
      have hcc : c = c' := hm.resolve_left (by simp)
      subst hcc
      have h3 := fun code => fv (P := P) (hρ u) hm' (Nat.le_refl _) code w
      cases hi with
      | none => exact absurd rfl (hne _ rfl)
      | some z =>
        have h2 := fun code => fv (P := P) (hρ z) hh' (Nat.le_refl _) code w
        cases lo with
        | none => cases hl'; exact ⟨by simp [Instr.sliceBounds, (h2 _).1, (h3 _).1], Nat.zero_le _, fun e => by cases e⟩
        | some y =>
          have h1 := fun code => fv (P := P) (hρ y) hl' (Nat.le_refl _) code w
          exact ⟨by simp [Instr.sliceBounds, (h1 _).1, (h2 _).1, (h3 _).1], (h1 .sliceB).2, fun e => by cases e⟩

theorem qR (hρ : ∀ x, VR β (ρA x) (ρ x)) {lo hi mx : Option Operand} {n c l h m : Nat} (hb : bnds ρA lo hi mx n c = some (l, h, m)) : m ≤ c ∧ l ≤ h := by
  have w : World := default
  refine ⟨?_, (jl (P := default) hρ hb (Nat.le_refl _) (.inr rfl) true w).2.1⟩
  unfold bnds at hb
  split at hb
  · cases hb
  · obtain ⟨m', hm', hb⟩ := ab hb
    obtain ⟨h', hh', hb⟩ := ab hb
    obtain ⟨l', hl', hb⟩ := ab hb
    cases hb
    cases mx with
    | none => cases hm'; exact Nat.le_refl _
    | some u => exact (fv (P := default) (hρ u) hm' (Nat.le_refl _) .index w).2

theorem xk (hρ : ∀ x, VR β (ρA x) (ρ x)) {lo hi mx : Option Operand} {n c l h m : Nat} (hb : bnds ρA lo hi mx n c = some (l, h, m)) (hc : c ≤ n) : h ≤ n := by
  have hm := (qR hρ hb).1
  unfold bnds at hb
  split at hb
  · cases hb
  · obtain ⟨m', hm', hb⟩ := ab hb
    obtain ⟨h', hh', hb⟩ := ab hb
    obtain ⟨l', hl', hb⟩ := ab hb
    cases hb
    cases hi with
    | none => cases hh'; exact Nat.le_refl _
    | some y => exact Nat.le_trans (fv (P := default) (hρ y) hh' (Nat.le_refl _) .index default).2 (by omega)
/-- three bounds, the capacity greater than is known -/
theorem y6 (hρ : ∀ x, VR β (ρA x) (ρ x)) {lo hi : Option Operand} {u : Operand} {n c c' l h m : Nat} (hb : bnds ρA lo hi (some u) n c = some (l, h, m)) (hc : c ≤ c') (is : Bool) (w : World) :
    (Instr.sliceBounds is n c' (lo.map ρ) (hi.map ρ) ((some u).map ρ)).run P w = .ok (l, h, m) w := by
  cases hi with
  | none => simp [bnds] at hb
  | some z =>
    simp only [bnds] at hb
    obtain ⟨m', hm', hb⟩ := ab hb
    obtain ⟨h', hh', hb⟩ := ab hb
    obtain ⟨l', hl', hb⟩ := ab hb
    cases hb
    have h3 := fun code => fv (P := P) (hρ u) hm' hc code w
    have h2 := fun code => fv (P := P) (hρ z) hh' (Nat.le_refl _) code w
    cases lo with
    | none => cases hl'; simp [Instr.sliceBounds, (h2 _).1, (h3 _).1]
    | some y =>
      have h1 := fun code => fv (P := P) (hρ y) hl' (Nat.le_refl _) code w
      simp [Instr.sliceBounds, (h1 _).1, (h2 _).1, (h3 _).1]

/-! ### strings -/
theorem nZ : ∀ {x y : List UInt8}, eqB x y = true ↔ x = y
  | [], [] => by simp [eqB]
  | [], _ :: _ => by simp [eqB]
  | _ :: _, [] => by simp [eqB]
  | a :: x, b :: y => by
    unfold eqB
    by_cases h : a.toNat = b.toNat
    · rw [Tr.beq_iff.2 h]
      have : a = b := UInt8.toNat_inj.1 h
      simp [this, nZ (x := x) (y := y)]
    · rw [Tr.beq_ff h]
      have : a ≠ b := fun e => h (by rw [e])
      simp [this]
theorem tG (x y : List UInt8) : (x == y) = eqB x y := by
  cases h : eqB x y with
  | true => simp [nZ.1 h]
  | false =>
    have : x ≠ y := fun e => by rw [nZ.2 e] at h; cases h
    simp [this]
theorem ws : ∀ (x y : List UInt8), Op.bytesLess x y = ltB x y
  | [], [] => rfl
  | _ :: _, [] => rfl
  | [], _ :: _ => rfl
  | a :: x, b :: y => by
    unfold Op.bytesLess ltB
    rw [ws x y]
    rcases Nat.lt_trichotomy a.toNat b.toNat with h | h | h
    · have h1 : a < b := UInt8.lt_iff_toNat_lt.2 h
      rw [show Nat.blt a.toNat b.toNat = true by simpa [Nat.blt_eq] using h]
      simp [h1]
    · have h1 : ¬ a < b := fun e => by have := UInt8.lt_iff_toNat_lt.1 e; omega
      have h2 : a = b := UInt8.toNat_inj.1 h
      have h3 : Nat.blt a.toNat b.toNat = false := by
        cases hb : Nat.blt a.toNat b.toNat with
        | false => rfl
        | true => rw [Nat.blt_eq] at hb; omega
      rw [h3, Tr.beq_iff.2 h]
      simp [h1, h2]
    · have h1 : ¬ a < b := fun e => by have := UInt8.lt_iff_toNat_lt.1 e; omega
      have h2 : a ≠ b := fun e => by rw [e] at h; omega
      have h3 : Nat.blt a.toNat b.toNat = false := by
        cases hb : Nat.blt a.toNat b.toNat with
        | false => rfl
        | true => rw [Nat.blt_eq] at hb; omega
      rw [h3, Tr.beq_ff (by omega)]
      simp [h1, h2]
theorem gk (s : ByteArray) : s.data.toList.length = s.size := by rw [Array.length_toList]; rfl
theorem l2 (s : ByteArray) : s.toList = s.data.toList := by rw [ByteArray.toList_eq]
theorem xp {op : BinOp} {s u : ByteArray} {v : Value} (h : strB op s.data.toList u.data.toList = some v) (t : TypeId) (x y : Operand) (w : World) :
    (do eqGuard op t x y (.string s) (.string u); binOp op t (.string s) (.string u)).run P w = .ok v w := by
  have hg : eqGuard op t x y (.string s) (.string u) = pure () := by cases op <;> rfl
  have hb : ∀ r, (Op.stringOp op s u).run P w = .ok r w → (binOp op t (.string s) (.string u)).run P w = .ok r w := by
    intro r hr
    cases op <;> exact hr
  rw [hg]
  simp only [Sem.run_bind, Sem.run_pure, Result.andThen_ok]
  apply hb
  unfold strB at h
  split at h
  · cases hl : Nat.blt (s.data.toList.length + u.data.toList.length) 4611686018427387904 with
    | false => rw [hl] at h; cases h
    | true =>
      rw [hl] at h
      cases h
      rw [Nat.blt_eq, gk, gk] at hl
      have h1 : ¬ (((s.size + u.size : Nat) : Int) > IntKind.i64.max) := by
        have : IntKind.i64.max = 9223372036854775807 := rfl
        rw [this]; omega
      have h2 : s ++ u = ⟨(s.data.toList ++ u.data.toList).toArray⟩ := by
        apply ByteArray.ext
        simp [ByteArray.data_append]
      simp only [Op.stringOp, if_neg h1, Sem.run_pure, h2]
  all_goals first
    | (cases h; simp only [Op.stringOp, Sem.run_pure, l2, tG, ws])
    | cases h
end
end Fw
end Go.Proofs.YtogmioecalmalaaGreat
namespace Go.Proofs.YtogmioecalmalaaGreat
namespace Fw
set_option linter.unusedVariables false
set_option linter.unusedSimpArgs false
set_option linter.unusedSectionVars false
open Go.RowKit
section
variable {T : Tb} {P : Program} [TbOK T P] {β : Bt} {ρA : Operand → AV} {ρ : Operand → Value} {h : Hf} {L : List Rowb} {F : Fm} {Γ : Gh}

theorem xd {t : TypeId} {a b : AV} {x y : Value} (ha : VR β a x) (hb : VR β b y) {r : Bool} (hr : eqP T t a b = some r) (w : World) :
    (Op.equal t x y).run P w = .ok r w ∧ (∀ op s u, eqGuard op t s u x y = pure ()) ∧ (binOp .eql t x y = do pure (.bool (← Op.equal t x y))) ∧ (binOp .neq t x y = do pure (.bool (!(← Op.equal t x y)))) := by
  have key : ∀ d, (∀ n, (Op.equalIn (n + 1) t x y).run P w = .ok d w) → (Op.equal t x y).run P w = .ok d w := fun d hd => hd 9999
  unfold eqP at hr
  split at hr
  · rename_i e b' o c p hu
    obtain ⟨z, hz, hr⟩ := ab hr
    obtain ⟨h1, hr⟩ := aN hr
    cases hr
    have hbc := Nat.eq_of_beq_eq_true (av h1)
    have hz0 : 0 < z := by simpa [Nat.blt_eq] using ap h1
    subst hbc
    cases ha with
    | ptr h1 =>
      cases hb with
      | ptr h2 =>
        rw [h1] at h2
        cases h2
        refine ⟨key _ fun n => ?_, fun op s u => by cases op <;> rfl, rfl, rfl⟩
        have hsz := eE hz w
        simp only [Op.equalIn, Sem.run_bind, aA hu, Result.andThen_ok, hsz]
        rw [if_pos (by omega)]
        have : ∀ (k g : Nat), ((⟨g, k + o, none⟩ : Addr) == ⟨g, k + p, none⟩) = Nat.beq o p := by
          intro k g
          by_cases he : o = p
          · subst he; simp
          · rw [Tr.beq_ff he]; first | (simp [he]; done) | (simp; omega)
        simp [sameAddr, this]
  all_goals first
    | cases hr; done
    | (rename_i hu
       cases hr
       refine ⟨key _ fun n => ?_, ?_, ?_, ?_⟩
       · cases ha <;> cases hb <;> simp [Op.equalIn, aA hu]
       · intro op s u; cases ha <;> cases hb <;> cases op <;> rfl
       · cases ha <;> cases hb <;> rfl
       · cases ha <;> cases hb <;> rfl)
theorem xz {op : BinOp} {t : TypeId} {x y : Operand} {a b r : AV} {u v : Value} (ha : VR β a u) (hb : VR β b v) (hr : binA T op t x y a b = some r) :
    ∃ z, VR β r z ∧ ∀ w, (do eqGuard op t x y u v; binOp op t u v).run P w = .ok z w := by
  unfold binA at hr
  split at hr
  · obtain ⟨z, hz, hr⟩ := ab hr
    cases hr
    cases ha; cases hb
    exact ⟨z, .v z, fun w => xp hz t x y w⟩
  · split at hr
    · rename_i q he
      cases hr
      refine ⟨_, .v _, fun w => ?_⟩
      obtain ⟨h1, h2, h3, _⟩ := xd ha hb he w
      rw [h2, h3]
      simp [h1]
    · rename_i q he
      cases hr
      refine ⟨_, .v _, fun w => ?_⟩
      obtain ⟨h1, h2, _, h3⟩ := xd ha hb he w
      rw [h2, h3]
      simp [h1]
    · obtain ⟨u', hu, hr⟩ := ab hr
      obtain ⟨v', hv, hr⟩ := ab hr
      obtain ⟨z, hz, hr⟩ := ab hr
      cases hr
      cases wY ha hu
      cases wY hb hv
      exact ⟨z, .v z, fun w => tb hz w⟩
theorem xU {a r : AV} {x : Value} (hx : VR β a x) (hr : nilA a = some r) : VR β r x ∧ (∀ o : Oper, ∀ y, o.op = .nilCheck y → ρ y = x → ∀ w, (execOp ρ o).run P w = .ok (.value x) w) := by
  unfold nilA at hr
  split at hr
  all_goals first
    | cases hr; done
    | skip
  rename_i h1 h2 h3 h4 h5
  cases hr
  refine ⟨hx, fun o y ho hy w => ?_⟩
  simp only [execOp, ho, hy]
  cases hx with
  | v x =>
    cases x <;> first
      | rfl
      | (rename_i q; cases q <;> first | rfl | exact absurd rfl h1)
      | exact absurd rfl h2
      | exact absurd rfl h3
      | exact absurd rfl (h4 _ _ _)
  | fn h6 h7 =>
    rename_i f _ _ _ _
    cases f <;> first
      | rfl
      | exact absurd rfl (h5 _ _ _)
  | _ => rfl
theorem uf {s : TypeId} {f : Nat} {fd : Field} (hf : fldT T s f = some fd) : ∃ fs, T.und s = some (.struct fs) ∧ fs[f]? = some fd := by
  unfold fldT at hf
  split at hf
  · rename_i fs hu
    exact ⟨fs, hu, by simpa using hf⟩
  · cases hf
theorem xV {s : TypeId} {a r : AV} {x : Value} {f : Nat} (hx : VR β a x) (hr : fldA T s a f = some r) : ∃ z, VR β r z ∧ ∀ w, (Instr.fieldAt s x f).run P w = .ok z w := by
  unfold fldA at hr
  split at hr
  · rename_i b o
    obtain ⟨fd, hf, hr⟩ := ab hr
    obtain ⟨z, hz, hr⟩ := ab hr
    cases h0 : Nat.beq z 0 with
    | true => rw [h0] at hr; cases hr
    | false =>
      rw [h0] at hr
      cases hr
      obtain ⟨fs, hu, hfs⟩ := uf hf
      have hz0 : z ≠ 0 := fun e => by rw [e] at h0; cases h0
      cases hx with
      | ptr h1 =>
        rename_i g k m q
        refine ⟨_, .ptr h1, fun w => ?_⟩
        simp [Instr.fieldAt, aA hu, hfs, fieldPlace, eE hz w, Instr.sureAddr, aR, hz0, Nat.add_assoc]
  · cases hr
theorem vf {s : TypeId} {a r : AV} {x : Value} {f : Nat} (hx : VR β a x) (hr : sM T s a f = some r) : ∃ z, VR β r z ∧ ∀ w, (Instr.field s x f).run P w = .ok z w := by
  unfold sM at hr
  split at hr
  · obtain ⟨fd, hf, hr⟩ := ab hr
    obtain ⟨fs, hu, hfs⟩ := uf hf
    cases hx with
    | agg hc =>
      obtain ⟨v, h1, h2⟩ := uA hc hr
      refine ⟨v, h1, fun w => ?_⟩
      simp [Instr.field, aA hu, hfs, asAgg, h2 w]
  · cases hr
theorem xL {t : TypeId} {a i r : AV} {x y : Value} (hx : VR β a x) (hy : VR β i y) (hr : ixaA T t a i = some r) : ∃ z, VR β r z ∧ ∀ w, (Instr.indexAt t x y).run P w = .ok z w := by
  unfold ixaA at hr
  split at hr
  · rename_i n e b o hu
    obtain ⟨k, hk, hr⟩ := ab hr
    obtain ⟨z, hz, hr⟩ := ab hr
    cases hr
    obtain ⟨kd, rfl, hlt⟩ := oy hy hk
    cases hx with
    | ptr h1 =>
      refine ⟨_, .ptr h1, fun w => ?_⟩
      simp [Instr.indexAt, Instr.sureAddr, asIntOf, aA hu, eE hz w, hlt, aR, Nat.add_assoc]
  · rename_i e b o n c hu
    obtain ⟨k, hk, hr⟩ := ab hr
    obtain ⟨z, hz, hr⟩ := ab hr
    cases hr
    obtain ⟨kd, rfl, hlt⟩ := oy hy hk
    cases hx with
    | slc h1 =>
      refine ⟨_, .ptr h1, fun w => ?_⟩
      simp [Instr.indexAt, asIntOf, aA hu, eE hz w, hlt, aR, Nat.add_assoc]
  · rename_i e b o n z hu
    obtain ⟨k, hk, hr⟩ := ab hr
    obtain ⟨z, hz, hr⟩ := ab hr
    cases hr
    obtain ⟨kd, rfl, hlt⟩ := oy hy hk
    cases hx with
    | slo h1 _ _ _ _ =>
      refine ⟨_, .ptr h1, fun w => ?_⟩
      simp [Instr.indexAt, asIntOf, aA hu, eE hz w, hlt, aR, Nat.add_assoc]
  · cases hr
theorem yP {t : TypeId} {a i r : AV} {x y : Value} (hx : VR β a x) (hy : VR β i y) (hr : ixA T t a i = some r) : ∃ z, VR β r z ∧ ∀ w, (Instr.index t x y).run P w = .ok z w := by
  unfold ixA at hr
  split at hr
  · rename_i n e cs hu
    obtain ⟨k, hk, hr⟩ := ab hr
    obtain ⟨z, hz, hr⟩ := ab hr
    obtain ⟨kd, rfl, hlt⟩ := oy hy hk
    cases hx with
    | agg hc =>
      obtain ⟨v, h1, h2⟩ := uA hc hr
      refine ⟨v, h1, fun w => ?_⟩
      simp [Instr.index, asIntOf, aA hu, eE hz w, hlt, h2 w]
  · rename_i s hu
    obtain ⟨k, hk, hr⟩ := ab hr
    obtain ⟨c, hc, hr⟩ := ab hr
    cases hr
    obtain ⟨kd, rfl, hlt⟩ := oy hy hk
    cases hx
    refine ⟨_, .v _, fun w => ?_⟩
    have h3 : s[k]? = some c := by
      rw [gk] at hlt
      rw [tQ hlt]
      simp [gt, List.getD, hc]
    simp [Instr.index, asIntOf, aA hu, h3]
  · cases hr
theorem vD {a r : AV} {x : Value} {i : Nat} (hx : VR β a x) (hr : vU a i = some r) : ∃ z, VR β r z ∧ ∀ w, (Instr.extract x i).run P w = .ok z w := by
  unfold vU at hr
  split at hr
  · cases hx with
    | tup hc =>
      obtain ⟨v, h1, h2⟩ := hc.get hr
      exact ⟨v, h2, fun w => by simp [Instr.extract, h1]⟩
  · cases hr
theorem vm (hρ : ∀ x, VR β (ρA x) (ρ x)) {t : TypeId} {a r : AV} {x : Value} {lo hi mx : Option Operand} (hx : VR β a x) (hr : sN T ρA t a lo hi mx = some r) :
    ∃ z, VR β r z ∧ ∀ w, (Instr.sliceAt t x (lo.map ρ) (hi.map ρ) (mx.map ρ)).run P w = .ok z w := by
  have e0 : ∀ (c l o' sz g k : Nat) (h : c = l → True), (if c = l then (some (⟨g, k + o', none⟩ : Addr)) else (some (⟨g, k + o', none⟩ : Addr)).map (·.add (l * sz))) = some ⟨g, k + (bif Nat.beq c l then o' else o' + l * sz), none⟩ := by
    intro c l o' sz g k _
    by_cases he : c = l
    · rw [if_pos he, Tr.beq_iff.2 he]; rfl
    · rw [if_neg he, Tr.beq_ff he]
      simp [aR, Nat.add_assoc]
  unfold sN at hr
  split at hr
  · rename_i s hu
    split at hr
    · obtain ⟨⟨l, h, m⟩, hb, hr⟩ := ab hr
      cases hr
      cases hx
      refine ⟨_, .v _, fun w => ?_⟩
      have h1 := (jl (P := P) hρ hb (Nat.le_refl _) (.inl rfl) false w).1
      rw [gk] at h1
      have h2 : s.extract l h = ⟨((s.data.toList.take h).drop l).toArray⟩ := by
        apply ByteArray.ext
        rw [ByteArray.data_extract]
        apply Array.ext'
        show (s.data.extract l h).toList = (s.data.toList.take h).drop l
        rw [Array.toList_extract, List.extract_eq_drop_take', List.drop_take]
      simp only [Option.map_none, Option.isNone_none, if_true] at h1
      simp [Instr.sliceAt, Instr.slice, aA hu, h1, h2]
    · cases hr
  · rename_i e hu
    obtain ⟨sz, hz, hr⟩ := ab hr
    obtain ⟨⟨l, h, m⟩, hb, hr⟩ := ab hr
    cases hr
    cases hx
    refine ⟨_, .v _, fun w => ?_⟩
    obtain ⟨h1, h2, h3⟩ := jl (P := P) hρ hb (Nat.le_refl _) (.inr rfl) true w
    obtain ⟨g1, g2⟩ := qR hρ hb
    have g3 : h = 0 := by
      unfold bnds at hb
      split at hb
      · cases hb
      · obtain ⟨m', hm', hb⟩ := ab hb
        obtain ⟨h', hh', hb⟩ := ab hb
        obtain ⟨l', hl', hb⟩ := ab hb
        cases hb
        cases hi with
        | none => cases hh'; rfl
        | some z => have := (fv (P := P) (hρ z) hh' (Nat.le_refl _) .index w).2; omega
    have hq : (if mx.isNone = true then 0 else m) = 0 := by split <;> omega
    have hl : l = 0 := by omega
    subst g3 hl
    rw [hq] at h1
    simp [Instr.sliceAt, Instr.slice, aA hu, h1, eE hz w]
  · rename_i e b o0 n0 z hu
    obtain ⟨sz, hz, hr⟩ := ab hr
    split at hr
    · obtain ⟨⟨l, h, m⟩, hb, hr⟩ := ab hr
      cases hr
      cases hx with
      | es h1 hc hm hzp =>
        rename_i c g k m'
        refine ⟨_, .es h1 hc hm hzp, fun w => ?_⟩
        obtain ⟨g1, g2, g3⟩ := jl (P := P) (c' := c) hρ hb (Nat.zero_le _) (.inl rfl) true w
        have g4 : h = 0 := by
          unfold bnds at hb
          obtain ⟨m', hm', hb⟩ := ab hb
          obtain ⟨h', hh', hb⟩ := ab hb
          obtain ⟨l', hl', hb⟩ := ab hb
          cases hb
          cases hm'
          cases hi with
          | none => cases hh'; rfl
          | some z => have := (fv (P := P) (hρ z) hh' (Nat.le_refl _) .index w).2; omega
        have hl : l = 0 := by omega
        subst g4 hl
        simp only [Option.map_none, Option.isNone_none, if_true] at g1
        simp only [Instr.sliceAt, Instr.slice, aA hu, Sem.run_bind, Result.andThen_ok, Option.map_none, g1, eE hz w, Sem.run_pure]
        split
        · simp
        · simp [aR]
    · cases hr
  · rename_i e b o n c hu
    obtain ⟨sz, hz, hr⟩ := ab hr
    obtain ⟨⟨l, h, m⟩, hb, hr⟩ := ab hr
    cases hr
    cases hx with
    | slc h1 =>
      refine ⟨_, .slc h1, fun w => ?_⟩
      obtain ⟨g1, g2, g3⟩ := jl (P := P) hρ hb (Nat.le_refl _) (.inr rfl) true w
      have hm : (if mx.isNone then c else m) = m := by
        split
        · rename_i hn; exact (g3 hn).symm
        · rfl
      rw [hm] at g1
      simp only [Instr.sliceAt, Instr.slice, aA hu, Sem.run_bind, Result.andThen_ok, g1, eE hz w, Sem.run_pure]
      rw [e0 _ _ _ _ _ _ (fun _ => trivial)]
  · rename_i e b o n z hu
    obtain ⟨sz, hz, hr⟩ := ab hr
    obtain ⟨hsz, hr⟩ := aN hr
    have hsz := Nat.eq_of_beq_eq_true hsz
    subst hsz
    obtain ⟨⟨l, h, m⟩, hb, hr⟩ := ab hr
    dsimp only at hr
    obtain ⟨gm, glh⟩ := qR hρ hb
    cases hx with
    | slo h1 hl hc hm hzp =>
      rename_i c' g k q
      have hhn : h ≤ n := xk hρ hb (Nat.le_refl _)
      split at hr
      · have run : ∀ w, (Instr.sliceAt t (.slice (some ⟨g, k + o, none⟩) n c') (lo.map ρ) (hi.map ρ) ((none : Option Operand).map ρ)).run P w =
            .ok (.slice (some ⟨g, k + (bif Nat.beq c' l then o else o + l * sz), none⟩) (h - l) (c' - l)) w := fun w => by
          obtain ⟨g1, g2, g3⟩ := jl (P := P) hρ hb hl (.inl rfl) true w
          simp only [Option.isNone_none, if_true] at g1
          simp only [Instr.sliceAt, Instr.slice, aA hu, Sem.run_bind, Result.andThen_ok, g1, eE hz w, Sem.run_pure]
          rw [e0 _ _ _ _ _ _ (fun _ => trivial)]
        have hroom : ∀ l, l ≤ c' → k + (o + l * sz) + (c' - l) * sz = q := by
          intro l hlc
          have : l * sz + (c' - l) * sz = c' * sz := by rw [← Nat.add_mul]; congr 1; omega
          omega
        cases hln : Nat.beq l n with
        | true =>
          rw [hln] at hr
          cases hr
          have e1 := Nat.eq_of_beq_eq_true hln
          have e2 : h = n := by omega
          subst e1 e2
          refine ⟨_, ?_, run⟩
          rw [Nat.sub_self]
          have e3 : k + (bif Nat.beq c' h then o else o + h * sz) = if c' - h = 0 then k + o else k + o + h * sz := by
            by_cases hch : c' = h
            · subst hch; rw [Nat.beq_refl, if_pos (by omega)]; rfl
            · rw [Tr.beq_ff hch, if_neg (by omega)]; simp only [cond_false]; omega
          rw [e3]
          exact .es h1 (by rw [show h + (c' - h) = c' by omega]; omega) (by omega) hzp
        | false =>
          rw [hln] at hr
          cases hr
          have hlt : l ≠ n := fun e => by rw [e, Nat.beq_refl] at hln; cases hln
          refine ⟨_, ?_, run⟩
          rw [Tr.beq_ff (by omega : c' ≠ l)]
          exact .slo h1 (by omega) (hroom l (by omega)) (by omega) hzp
      · rename_i u
        cases hr
        refine ⟨_, .slc h1, fun w => ?_⟩
        have g1 := y6 (P := P) hρ hb hl true w
        simp only [Instr.sliceAt, Instr.slice, aA hu, Sem.run_bind, Result.andThen_ok, g1, eE hz w, Sem.run_pure]
        rw [e0 _ _ _ _ _ _ (fun _ => trivial)]
  · rename_i n e b o hu
    obtain ⟨sz, hz, hr⟩ := ab hr
    obtain ⟨⟨l, h, m⟩, hb, hr⟩ := ab hr
    cases hr
    cases hx with
    | ptr h1 =>
      refine ⟨_, .slc h1, fun w => ?_⟩
      obtain ⟨g1, g2, g3⟩ := jl (P := P) hρ hb (Nat.le_refl _) (.inr rfl) false w
      have hm : (if mx.isNone then n else m) = m := by
        split
        · rename_i hn; exact (g3 hn).symm
        · rfl
      rw [hm] at g1
      simp only [Instr.sliceAt, aA hu, Sem.run_bind, Result.andThen_ok, g1, eE hz w, Sem.run_pure, Instr.sureAddr]
      by_cases he : m = l
      · rw [if_pos he, Tr.beq_iff.2 he]; rfl
      · rw [if_neg he, Tr.beq_ff he]; simp [aR, Nat.add_assoc]
  · cases hr
end
end Fw
end Go.Proofs.YtogmioecalmalaaGreat
namespace Go.Proofs.YtogmioecalmalaaGreat
namespace Fw
set_option linter.unusedVariables false
set_option linter.unusedSimpArgs false
set_option linter.unusedSectionVars false
open Go.RowKit
section
variable {T : Tb} {P : Program} [TbOK T P] {β : Bt} {ρA : Operand → AV} {ρ : Operand → Value} {h : Hf} {L : List Rowb} {F : Fm} {Γ : Gh}

/-! ### cells written over -/
def setL (xs : List Value) (o : Nat) (vs : List Value) : List Value := xs.take o ++ vs ++ xs.drop (o + vs.length)
theorem oY (xs : List Value) (o : Nat) : setL xs o [] = xs := by simp [setL]
theorem tw : ∀ {cs : List AV} {o : Nat} {l cs' : List AV} {xs vs : List Value}, wrC cs o l = some cs' → VRs β cs xs → VRs β l vs → (l ≠ [] → o + l.length ≤ cs.length) ∧ VRs β cs' (setL xs o vs) ∧ cs'.length = cs.length
  | cs, o, [], cs', xs, vs, hw, hc, hv => by
    cases hv
    have : cs' = cs := by cases cs <;> (unfold wrC at hw; cases hw; rfl)
    subst this
    rw [oY]
    exact ⟨fun h => absurd rfl h, hc, rfl⟩
  | [], o, a :: l, cs', xs, vs, hw, hc, hv => by unfold wrC at hw; cases hw
  | c :: cs, 0, a :: l, cs', xs, vs, hw, hc, hv => by
    unfold wrC at hw
    obtain ⟨r, hr, hw⟩ := ab hw
    cases hw
    cases hc with
    | cons hc1 hc2 =>
      cases hv with
      | cons hv1 hv2 =>
        obtain ⟨h1, h2, h3⟩ := tw (cs := cs) (o := 0) hr hc2 hv2
        refine ⟨fun _ => ?_, ?_, by simp [h3]⟩
        · by_cases he : l = []
          · subst he; simp
          · have := h1 he; simp at this ⊢; omega
        · have : VRs β (a :: r) (_ :: setL _ 0 _) := .cons hv1 h2
          simpa [setL] using this
  | c :: cs, o + 1, a :: l, cs', xs, vs, hw, hc, hv => by
    unfold wrC at hw
    obtain ⟨r, hr, hw⟩ := ab hw
    cases hw
    cases hc with
    | cons hc1 hc2 =>
      obtain ⟨h1, h2, h3⟩ := tw (cs := cs) (o := o) hr hc2 hv
      refine ⟨fun hne => ?_, ?_, by simp [h3]⟩
      · have := h1 hne; simp at this ⊢; omega
      · have : VRs β (c :: r) (_ :: setL _ o _) := .cons hc1 h2
        have e : ∀ (x : Value) (xs vs : List Value), setL (x :: xs) (o + 1) vs = x :: setL xs o vs := by
          intro x xs vs
          simp [setL, show o + 1 + vs.length = o + vs.length + 1 by omega]
        rw [e]; exact this
theorem iP {xs vs : List Value} {o j : Nat} (hl : o + vs.length ≤ xs.length) : (setL xs o vs)[j]? = if o ≤ j ∧ j < o + vs.length then vs[j - o]? else xs[j]? := by
  unfold setL
  by_cases h1 : j < o
  · rw [if_neg (by omega), List.append_assoc, List.getElem?_append_left (by simp; omega), List.getElem?_take, if_pos h1]
  · by_cases h2 : j < o + vs.length
    · rw [if_pos ⟨by omega, h2⟩, List.append_assoc, List.getElem?_append_right (by simp; omega), List.getElem?_append_left (by simp; omega)]
      congr 1; simp; omega
    · rw [if_neg (by omega), List.getElem?_append_right (by simp; omega), List.getElem?_drop]
      congr 1; simp; omega
theorem wn {xs vs : List Value} {o : Nat} (h : ∀ v ∈ xs, v.oneCell' = true) (h' : ∀ v ∈ vs, v.oneCell' = true) : ∀ v ∈ setL xs o vs, v.oneCell' = true := by
  intro v hv
  simp only [setL, List.mem_append] at hv
  rcases hv with (hv | hv) | hv
  · exact h v (List.mem_of_mem_take hv)
  · exact h' v hv
  · exact h v (List.mem_of_mem_drop hv)
theorem sH (off : Nat) : ∀ (vs : List Value) (k : Nat) (arr : Array Value), off + k + vs.length ≤ arr.size →
    (vs.zipIdx k).foldl (fun cs (c, j) => cs.setIfInBounds (off + j) c) arr = (setL arr.toList (off + k) vs).toArray
  | [], k, arr, _ => by simp [oY]
  | v :: vs, k, arr, hl => by
    simp only [List.length_cons] at hl
    have ih := sH off vs (k + 1) (arr.setIfInBounds (off + k) v) (by simp; omega)
    simp only [List.zipIdx_cons, List.foldl_cons]
    rw [ih]
    congr 1
    apply List.ext_getElem?
    intro j
    rw [iP (by simp; omega), iP (by simp; omega)]
    simp only [Array.toList_setIfInBounds, List.getElem?_set, List.length_cons]
    by_cases h1 : off + k = j
    · subst h1
      rw [if_neg (by omega), if_pos (by omega)]
      simp; omega
    · by_cases h2 : off + k + 1 ≤ j ∧ j < off + k + 1 + vs.length
      · rw [if_pos (by omega), if_pos (by omega)]
        rw [show j - (off + k) = (j - (off + (k + 1))) + 1 by omega]
        simp
      · rw [if_neg (by omega), if_neg h1, if_neg (by omega)]
theorem lF (hρ : ∀ x, VR β (ρA x) (ρ x)) {place : Nat → Option (Nat × Nat)} : ∀ (ps : List (Nat × Operand)) {cs cs' : List AV} {xs : List Value}, CR β cs xs → pw place cs (ps.map fun p => (p.1, ρA p.2)) = some cs' →
    ∃ ys, Instr.fill place xs.toArray (ps.map fun p => (p.1, ρ p.2)) = some ys.toArray ∧ CR β cs' ys ∧ cs'.length = cs.length
  | [], cs, cs', xs, hc, hf => by cases hf; exact ⟨xs, rfl, hc, rfl⟩
  | (i, x) :: ps, cs, cs', xs, hc, hf => by
    simp only [List.map_cons] at hf ⊢
    unfold pw at hf
    obtain ⟨⟨o, n⟩, hp, hf⟩ := ab hf
    obtain ⟨l, hl, hf⟩ := ab hf
    obtain ⟨hn, hf⟩ := aN hf
    obtain ⟨cs1, hw, hf⟩ := ab hf
    have hle : o + n ≤ cs.length := Nat.le_of_ble_eq_true (ap hn)
    have hn := Nat.eq_of_beq_eq_true (av hn)
    have hcr := je (hρ x) hl
    have hll : l.length = (ρ x).cells.size := by rw [hcr.rel.len]; simp
    obtain ⟨h1, h2, h3⟩ := tw hw hc.rel hcr.rel
    obtain ⟨ys, g1, g2, g3⟩ := lF hρ ps ⟨h2, wn hc.one hcr.one⟩ hf
    refine ⟨ys, ?_, g2, by rw [g3, h3]⟩
    unfold Instr.fill
    simp only [hp]
    have hsz : xs.length = cs.length := hc.rel.len.symm
    have hc1 : ¬ (((ρ x).cells.size ≠ n || decide (o + (ρ x).cells.size > xs.toArray.size)) = true) := by
      simp only [Bool.or_eq_true, decide_eq_true_eq, not_or]
      refine ⟨?_, ?_⟩
      · simp; omega
      · simp; omega
    rw [if_neg hc1, ← g1]
    congr 1
    have := sH o (ρ x).cells.toList 0 xs.toArray (by simp; omega)
    simp only [Nat.add_zero] at this
    rw [← this, ← Array.foldl_toList]
    simp
theorem s5 {α γ : Type} {G : α → Sem γ} {g : α → Option γ} (hg : ∀ a c, g a = some c → ∀ w, (G a).run P w = .ok c w) : ∀ {l : List α} {r : List γ}, mapO g l = some r → ∀ w, (List.mapM (m := Sem) G l).run P w = .ok r w
  | [], r, hr, w => by cases hr; simp
  | x :: l, r, hr, w => by
    unfold mapO at hr
    obtain ⟨y, hy, hr⟩ := ab hr
    obtain ⟨ys, hys, hr⟩ := ab hr
    cases hr
    simp [List.mapM_cons, hg x y hy, s5 hg hys w]
theorem gz (ps : Array (Nat × Operand)) : (ps.map fun (i, x) => (i, ρ x)).toList = ps.toList.map fun p => (p.1, ρ p.2) := by simp
theorem vt (hρ : ∀ x, VR β (ρA x) (ρ x)) {t : TypeId} {ps : Array (Nat × Operand)} {r : AV} (hr : pr T t (eF ρA ps) = some r) : ∃ z, VR β r z ∧ ∀ w, (Instr.build t (ps.map fun (i, x) => (i, ρ x))).run P w = .ok z w := by
  unfold pr eF at hr
  obtain ⟨z0, hz, hr1⟩ := ab hr
  clear hr
  obtain ⟨z, hc, hr⟩ := ab hr1
  clear hr1
  obtain ⟨zv, i, hi, hzv, hv, rfl, hrun⟩ := li (β := β) hz
  have hcr := je hv hc
  split at hr
  · rename_i fs hu
    obtain ⟨places, hp, hr⟩ := ab hr
    obtain ⟨cs, hf, hr⟩ := ab hr
    cases hr
    obtain ⟨ys, g1, g2, _⟩ := lF hρ ps.toList hcr hf
    refine ⟨.agg ys.toArray, .agg g2.rel, fun w => ?_⟩
    have hm := s5 (P := P) (G := fun (f : Field) => (do pure (f.offset, ← sizeOf f.type) : Sem (Nat × Nat))) (fun f c hc w => by
      obtain ⟨s, hs, hc⟩ := ab hc
      cases hc
      simp [eE hs w]) hp w
    have hm2 : (Array.mapM (m := Sem) (fun (f : Field) => (do pure (f.offset, ← sizeOf f.type) : Sem (Nat × Nat))) fs).run P w = .ok places.toArray w := by
      have e : fs = fs.toList.toArray := by simp
      rw [e, List.mapM_toArray]
      simp only [Sem.run_map]
      rw [show (List.mapM (m := Sem) (fun (f : Field) => (do pure (f.offset, ← sizeOf f.type) : Sem (Nat × Nat))) fs.toList).run P w = .ok places w from hm]
      rfl
    have e2 : (fun (i : Nat) => places.toArray[i]?) = (fun (i : Nat) => places[i]?) := by funext i; simp
    simp only [Instr.build, Sem.run_bind, hrun w, Result.andThen_ok, aA hu, hm2, gz]
    rw [show zv.cells = zv.cells.toList.toArray by simp, e2, g1]
    rfl
  · rename_i n e hu
    obtain ⟨s, hs, hr⟩ := ab hr
    obtain ⟨cs, hf, hr⟩ := ab hr
    cases hr
    obtain ⟨ys, g1, g2, _⟩ := lF hρ ps.toList hcr hf
    refine ⟨.agg ys.toArray, .agg g2.rel, fun w => ?_⟩
    simp only [Instr.build, Sem.run_bind, hrun w, Result.andThen_ok, aA hu, eE hs w, gz]
    rw [show zv.cells = zv.cells.toList.toArray by simp, g1]
    rfl
  · cases hr

/-! ### what lies in the rows -/
/-- the rows lie in this world -/
structure Lies (L : List Rowb) (w : World) : Prop where
  loc : ∀ r ∈ L, ∀ p ∈ r, w.heap[p.1]? = some p.2
theorem Lies.at_ {L : List Rowb} {w : World} {i : Nat} {row : Rowb} (h : Lies L w) (hi : L[i]? = some row) {p : Nat × Obj} (hp : p ∈ row) : w.heap[p.1]? = some p.2 := h.loc row (List.mem_of_getElem? hi) p hp
theorem Cur.lies {F : Fm} {Γ : Gh} {L : List Rowb} {w : World} (h : Cur F Γ L w) : Lies L w := ⟨h.loc⟩
/-- blocks as they lie in the rows -/
def HL (P : Program) (β : Bt) (h : Hf) (L : List Rowb) : Prop := ∀ b o, h b = some o → ∃ row, L[b]? = some row ∧ OR P β (β b) (some o) row
theorem MH.hl {n : Nat} (hM : MH P β h n L) : HL P β h L := fun b o hb => hM.at_ hb
theorem HL.cells (hL : HL P β h L) {b : Nat} {cs : List AV} {e : TypeId} (hb : h b = some (.cells cs e)) : ∃ (p : Pl) (arr : Array Value) (fz : Nat × Nat), β b = some p ∧ OC β p cs arr fz ∧ ∀ w, Lies L w → w.heap[p.1]? = some (.cells arr e fz) := by
  obtain ⟨row, hr, q, arr, fz, h1, rfl, h2⟩ := hL b _ hb
  exact ⟨q, arr, fz, h1, h2, fun w hw => hw.at_ hr (p := (q.1, .cells arr e fz)) (by simp)⟩
theorem sd (hL : HL P β h L) {t : TypeId} {a r : AV} {rd : Option Nat} {x : Value} (hx : VR β a x) (hr : q7 T h t a = some (r, rd)) : ∃ z, VR β r z ∧ ∀ w, Lies L w → (Instr.loadAt t x).run P w = .ok z w := by
  unfold q7 at hr
  split at hr
  · split at hr
    · rename_i b o _ cs e hb
      obtain ⟨a', ha, hr⟩ := ab hr
      cases hr
      obtain ⟨p, arr, fz, h1, h2, h3⟩ := hL.cells hb
      cases hx with
      | ptr h4 =>
        rw [h1] at h4
        cases h4
        obtain ⟨v, g1, g2⟩ := sL (P := P) h2 (e := e) ha
        exact ⟨v, g1, fun w hw => by simp [Instr.loadAt, Instr.sureAddr, g2 w (h3 w hw)]⟩
    · cases hr
  · cases hr
theorem ot : ∀ {l : List AV} {vs : List Value} {bs : List UInt8}, VRs β l vs → hJ l = some bs → ∃ ns : List Int, vs = ns.map (Value.int .u8) ∧ bs = ns.map fun n => UInt8.ofNat n.toNat
  | [], vs, bs, hv, hb => by cases hv; cases hb; exact ⟨[], rfl, rfl⟩
  | a :: l, vs, bs, hv, hb => by
    cases hv with
    | cons h1 h2 =>
      unfold hJ at hb
      split at hb
      · rename_i he; cases he
      · rename_i n l' he
        cases he
        obtain ⟨r, hr, hb⟩ := ab hb
        cases hb
        obtain ⟨ns, rfl, rfl⟩ := ot h2 hr
        cases h1
        exact ⟨n :: ns, rfl, rfl⟩
      · cases hb
end
end Fw
end Go.Proofs.YtogmioecalmalaaGreat
namespace Go.Proofs.YtogmioecalmalaaGreat
namespace Fw
set_option linter.unusedVariables false
set_option linter.unusedSimpArgs false
set_option linter.unusedSectionVars false
open Go.RowKit Go.MapKept
section
variable {T : Tb} {P : Program} [TbOK T P] {β : Bt} {ρA : Operand → AV} {ρ : Operand → Value} {h : Hf} {L : List Rowb} {F : Fm} {Γ : Gh}

theorem s7 : ∀ (ns : List Int) (s : ByteArray), ns.foldl (fun r n => r.push (UInt8.ofNat n.toNat)) s = ⟨(s.data.toList ++ ns.map fun n => UInt8.ofNat n.toNat).toArray⟩
  | [], s => by apply ByteArray.ext; simp
  | n :: ns, s => by
    simp only [List.foldl_cons, s7 ns, List.map_cons]
    apply ByteArray.ext
    simp [ByteArray.push]
theorem rF (hL : HL P β h L) {src dst e : TypeId} (hs : T.und src = some (.slice e)) (hd : T.und dst = some .string) (he : T.und e = some (.int .u8)) {b o n c : Nat} {cs : List AV} {e' : TypeId} (hb : h b = some (.cells cs e')) {l : List AV} (hl : cut cs o n = some l) {bs : List UInt8} (hbs : hJ l = some bs)
    {g k m : Nat} (hp : β b = some (g, k, m)) (w : World) (hw : Lies L w) : (convert src dst (.slice (some ⟨g, k + o, none⟩) n c)).run P w = .ok (.string ⟨bs.toArray⟩) w := by
  obtain ⟨p, arr, fz, h1, h2, h3⟩ := hL.cells hb
  rw [hp] at h1
  cases h1
  obtain ⟨vs, g1, g2, g3⟩ := h2.cut hl
  obtain ⟨ns, rfl, rfl⟩ := ot g2.rel hbs
  have hld := run_loadCells_list (P := P) w ⟨g, k + o, none⟩ (ns.map (Value.int .u8)) (fun j v hj => by rw [aR, cell_of_row w _ _ arr e' fz (h3 w hw)]; exact g3 j v hj)
  rw [g1] at hld
  have := run_bytesToString w ⟨g, k + o, none⟩ n c ns hld
  rw [s7] at this
  simp only [convert, aA hs, aA hd, aA he, Sem.run_bind, Result.andThen_ok, this]
  simp
theorem vH (hL : HL P β h L) {src dst : TypeId} {a r : AV} {rd : Option Nat} {x : Value} (hx : VR β a x) (hr : pK T h src dst a = some (r, rd)) : ∃ z, VR β r z ∧ ∀ w, Lies L w → (convert src dst x).run P w = .ok z w := by
  unfold pK at hr
  split at hr
  · rename_i s hs hd
    cases hr
    cases hx
    exact ⟨_, .v _, fun w _ => by simp [convert, aA hs, aA hd]⟩
  · rename_i e _ hs hd
    split at hr
    · rename_i n c he
      cases hr
      cases hx
      exact ⟨_, .v _, fun w _ => by simp [convert, aA hs, aA hd, aA he, Conv.bytesToString]⟩
    · rename_i b o n c he
      split at hr
      · rename_i cs e' hb
        obtain ⟨l, hl, hr⟩ := ab hr
        obtain ⟨bs, hbs, hr⟩ := ab hr
        cases hr
        cases hx with
        | slc h1 => exact ⟨_, .v _, fun w hw => rF hL hs hd he hb hl hbs h1 w hw⟩
      · cases hr
    · rename_i b o n z he
      split at hr
      · rename_i cs e' hb
        obtain ⟨l, hl, hr⟩ := ab hr
        obtain ⟨bs, hbs, hr⟩ := ab hr
        cases hr
        cases hx with
        | slo h1 _ _ _ _ => exact ⟨_, .v _, fun w hw => rF hL hs hd he hb hl hbs h1 w hw⟩
      · cases hr
    · cases hr
  · obtain ⟨v, hv, hr⟩ := ab hr
    cases hr
    cases hx
    exact ⟨v, .v v, fun w _ => tb hv w⟩
  · cases hr

/-! ### maps -/
theorem mc {t : TypeId} {k : AV} {x : Value} (hk : keyT T t k = true) (hx : VR β k x) : ∃ d, P.underlying t = some d ∧ IsKey d x ∧ k = .v x := by
  unfold keyT at hk
  split at hk
  · rename_i hu
    have := of_decide_eq_true hk
    subst this
    cases hx
    exact ⟨_, fm hu, rfl, rfl⟩
  all_goals first
    | cases hk; done
    | (rename_i hu; cases hx; exact ⟨_, fm hu, trivial, rfl⟩)
theorem xu {d : TypeDesc} {x y : Value} (hd : IsKey d x) {r : Bool} (hr : eqK x y = some r) : Instr.sameNow d x y = some r := by
  unfold eqK at hr
  split at hr
  · rename_i j a k b
    cases hjk : decide (j = k) with
    | false => rw [hjk] at hr; cases hr
    | true =>
      rw [hjk] at hr
      cases hr
      have := of_decide_eq_true hjk
      subst this
      cases d <;> simp_all [IsKey, Instr.sameNow]
  · rename_i a b
    cases hr
    cases d <;> simp_all [IsKey, Instr.sameNow]
    rw [← tG, ← l2, ← l2, beq_toListBytes]
  · rename_i a b
    cases hr
    cases d <;> simp_all [IsKey, Instr.sameNow]
  · cases hr
theorem xg {d : TypeDesc} {x y : Value} (hd : IsKey d x) (hn : Instr.sameNow d x y = some true) : x = y := by
  cases d <;> cases x <;> cases y <;> simp_all [IsKey, Instr.sameNow, iz]
theorem xb {x : Value} {a : AV} {b : Bool} (h : eqKA (.v x) a = some b) : ∃ z, a = .v z ∧ eqK x z = some b := by
  cases a <;> first | exact ⟨_, rfl, h⟩ | cases h
theorem lz {d : TypeDesc} {x : Value} (hd : IsKey d x) : ∀ {es : List (AV × AV × Nat)} {l : List MapEntry} {i : Nat} {r : Option (Nat × AV)}, ER β es l → oU (.v x) es i = some r →
    (r = none ∧ Instr.findNow d x l i = some none) ∨ ∃ j a e, r = some (i + j, a) ∧ Instr.findNow d x l i = some (some (i + j, e.val)) ∧ l[j]? = some e ∧ VR β a e.val ∧ e.key = x ∧ (∃ k b, es[j]? = some (k, a, b) ∧ k = .v x)
  | [], [], i, r, _, hf => by cases hf; exact .inl ⟨rfl, rfl⟩
  | [], _ :: _, _, _, h, _ => h.elim
  | _ :: _, [], _, _, h, _ => h.elim
  | a :: es, e :: l, i, r, ⟨⟨h1, h2, h3⟩, h4⟩, hf => by
    unfold oU at hf
    obtain ⟨b, hb, hf⟩ := ab hf
    obtain ⟨a1, a2, a3⟩ := a
    simp only at h1 h2 h3 hb hf
    obtain ⟨z, rfl, hb⟩ := xb hb
    · have hz := h1.vinv
      rw [← hz] at hb
      have hn := xu hd hb
      cases b with
      | true =>
        cases hf
        refine .inr ⟨0, a2, e, rfl, by simp [Instr.findNow, hn], rfl, h2, ?_, _, _, rfl, ?_⟩
        · exact (xg hd hn).symm
        · rw [xg hd hn, hz]
      | false =>
        rcases lz hd h4 hf with ⟨g1, g2⟩ | ⟨j, a, e', g1, g2, g3, g4, g5, g6⟩
        · exact .inl ⟨g1, by simp [Instr.findNow, hn, g2]⟩
        · exact .inr ⟨j + 1, a, e', by rw [g1, show i + 1 + j = i + (j + 1) by omega], by simp [Instr.findNow, hn, g2]; omega, by simpa using g3, g4, g5, by simpa using g6⟩
theorem oM {et : TypeId} {ok : Bool} {r : Option AV} {a : AV} (hf : s4 T et ok r = some a) :
    (∀ b z, r = some b → VR β b z → VR β a (if ok then .tuple #[z, .bool true] else z)) ∧ (r = none → ∃ z, (∀ w, (zeroValue et).run P w = .ok z w) ∧ VR β a (if ok then .tuple #[z, .bool false] else z)) := by
  unfold s4 at hf
  split at hf
  · rename_i b
    cases hf
    refine ⟨fun b' z hb hz => ?_, fun e => by cases e⟩
    cases hb
    cases ok with
    | true => exact .tup (.cons hz (.cons (.v _) .nil))
    | false => exact hz
  · obtain ⟨z0, hz, hf⟩ := ab hf
    cases hf
    obtain ⟨z, i, _, _, hv, _, hrun⟩ := li (β := β) hz
    refine ⟨fun b z hb _ => by (cases hb), fun _ => ⟨z, hrun, ?_⟩⟩
    cases ok with
    | true => exact .tup (.cons hv (.cons (.v _) .nil))
    | false => exact hv
theorem HL.map (hL : HL P β h L) {b : Nat} {es : List (AV × AV × Nat)} {c : Nat} (hb : h b = some (.map es c)) : ∃ (g : Nat) (arr : Array MapEntry), β b = some (g, 0, 0) ∧ ER β es arr.toList ∧ ∀ w, Lies L w → w.heap[g]? = some (.map arr c) := by
  obtain ⟨row, hr, g, arr, h1, rfl, h2⟩ := hL b _ hb
  exact ⟨g, arr, h1, h2, fun w hw => hw.at_ hr (p := (g, .map arr c)) (by simp)⟩
theorem wu (hL : HL P β h L) {t : TypeId} {a k r : AV} {ok : Bool} {rd : Option Nat} {x y : Value} (hx : VR β a x) (hy : VR β k y) (hr : qv T h t a k ok = some (r, rd)) : ∃ z, VR β r z ∧ ∀ w, Lies L w → (Instr.lookup t x y ok).run P w = .ok z w := by
  unfold qv at hr
  split at hr
  · rename_i kt et hu
    obtain ⟨hk, hr⟩ := aN hr
    obtain ⟨r', hf, hr⟩ := ab hr
    cases hr
    obtain ⟨d, hd, hkey, rfl⟩ := mc hk hy
    obtain ⟨z, hz, hv⟩ := (oM (β := β) hf).2 rfl
    cases hx
    refine ⟨_, hv, fun w _ => ?_⟩
    have h1 := run_checkKey (w := w) hd hkey true 9999
    have h2 := run_findKey (w := w) (l := []) (k := y) hd rfl
    cases ok <;> simp [Instr.lookup, aA hu, h1, h2, hz]
  · rename_i kt et b hu
    obtain ⟨hk, hr⟩ := aN hr
    split at hr
    · rename_i es c hb
      obtain ⟨r0, hfind, hr⟩ := ab hr
      obtain ⟨r', hf, hr⟩ := ab hr
      cases hr
      obtain ⟨d, hd, hkey, rfl⟩ := mc hk hy
      obtain ⟨g, arr, h1, h2, h3⟩ := hL.map hb
      cases hx with
      | map h4 =>
        rw [h1] at h4
        cases h4
        have hck := fun w => run_checkKey (w := w) hd hkey arr.isEmpty 9999
        rcases lz hkey h2 hfind with ⟨rfl, g2⟩ | ⟨j, a, e, rfl, g2, g3, g4, g5, _⟩
        · obtain ⟨z, hz, hv⟩ := (oM (β := β) hf).2 rfl
          refine ⟨_, hv, fun w hw => ?_⟩
          have g := Go.MapKept.run_getObj_map (P := P) (h3 w hw)
          have h5 := run_findKey (w := w) hd g2
          cases ok <;> simp [Instr.lookup, aA hu, g, hck w, h5, hz]
        · refine ⟨_, (oM (β := β) hf).1 _ _ rfl g4, fun w hw => ?_⟩
          have g := Go.MapKept.run_getObj_map (P := P) (h3 w hw)
          have h5 := run_findKey (w := w) hd g2
          cases ok <;> simp [Instr.lookup, aA hu, g, hck w, h5]
    · cases hr
  · cases hr
theorem ER.len : ∀ {es : List (AV × AV × Nat)} {l : List MapEntry}, ER β es l → es.length = l.length
  | [], [], _ => rfl
  | [], _ :: _, h => h.elim
  | _ :: _, [], h => h.elim
  | _ :: _, _ :: _, ⟨_, h⟩ => by simp [ER.len h]
theorem xX (hL : HL P β h L) {t : TypeId} {a : AV} {r : Nat} {rd : Option Nat} {x : Value} (hx : VR β a x) (hr : lenA T h t a = some (r, rd)) (ty : TypeId) : ∀ w, Lies L w → (Builtin.len_ #[t] ty #[x]).run P w = .ok (.int .i64 r) w := by
  intro w hw
  unfold lenA at hr
  split at hr
  · rename_i hu; cases hr; cases hx; simp [Builtin.len_, aA hu, goInt]
  · rename_i s hu; cases hr; cases hx; rw [gk]; simp [Builtin.len_, aA hu, goInt]
  · rename_i hu; cases hr; cases hx; simp [Builtin.len_, aA hu, goInt]
  · rename_i hu; cases hr; cases hx; simp [Builtin.len_, aA hu, goInt]
  · rename_i hu; cases hr; cases hx; simp [Builtin.len_, aA hu, goInt]
  · rename_i hu; cases hr; cases hx; simp [Builtin.len_, aA hu, goInt]
  · rename_i hu
    split at hr
    · rename_i es c hb
      cases hr
      obtain ⟨g, arr, h1, h2, h3⟩ := hL.map hb
      cases hx with
      | map h4 =>
        rw [h1] at h4
        cases h4
        have g := Go.MapKept.run_getObj_map (P := P) (h3 w hw)
        have hl : es.length = arr.size := by rw [h2.len]; simp
        simp [Builtin.len_, aA hu, goInt, g, hl]
    · cases hr
  · cases hr
theorem xC {t : TypeId} {a r : AV} {x : Value} (hx : VR β a x) (hr : mkiA T t a = some r) : ∃ z, VR β r z ∧ ∀ w, (Instr.makeInterface t x).run P w = .ok z w := by
  unfold mkiA at hr
  split at hr
  · cases hr
  · rename_i d hne hu
    cases hr
    refine ⟨_, .ifc hx, fun w => ?_⟩
    cases d <;> first
      | exact (hne _ rfl).elim
      | simp [Instr.makeInterface, aA hu]
  · cases hr
theorem xR {t xt : TypeId} {a r : AV} {ok : Bool} {x : Value} (hx : VR β a x) (hr : tasA T a t ok = some r) : ∃ z, VR β r z ∧ ∀ w, (Instr.typeAssert x xt t ok).run P w = .ok z w := by
  unfold tasA at hr
  split at hr
  · cases hr
  · cases hr
  · rename_i d hne hu
    split at hr
    · rename_i u y
      cases hx with
      | @ifc _ _ v hv =>
        cases hut : Nat.beq u t with
        | true =>
          rw [hut] at hr
          have he := Nat.eq_of_beq_eq_true hut
          subst he
          cases ok with
          | true =>
            cases hr
            refine ⟨_, .tup (.cons hv (.cons (.v (.bool true)) .nil)), fun w => ?_⟩
            cases d <;> first
              | exact (hne _ rfl).elim
              | simp [Instr.typeAssert, aA hu]
          | false =>
            cases hr
            refine ⟨_, hv, fun w => ?_⟩
            cases d <;> first
              | exact (hne _ rfl).elim
              | simp [Instr.typeAssert, aA hu]
        | false =>
          rw [hut] at hr
          have hne2 : u ≠ t := fun e => by rw [e, Nat.beq_refl] at hut; cases hut
          cases ok with
          | true =>
            obtain ⟨z, hz, hr⟩ := ab (show bd (zrT T t) (fun z => some (.tup [z, .v (.bool false)])) = some r from hr)
            cases hr
            obtain ⟨zv, i, _, _, hzr, _, hrun⟩ := li (β := β) hz
            refine ⟨_, .tup (.cons hzr (.cons (.v (.bool false)) .nil)), fun w => ?_⟩
            cases d <;> first
              | exact (hne _ rfl).elim
              | simp [Instr.typeAssert, aA hu, hne2, hrun]
          | false => cases hr
    · cases ok with
      | true =>
        obtain ⟨z, hz, hr⟩ := ab (show bd (zrT T t) (fun z => some (.tup [z, .v (.bool false)])) = some r from hr)
        cases hr
        obtain ⟨zv, i, _, _, hzr, _, hrun⟩ := li (β := β) hz
        have hxv := hx.vinv
        subst hxv
        refine ⟨_, .tup (.cons hzr (.cons (.v (.bool false)) .nil)), fun w => ?_⟩
        cases d <;> first
          | exact (hne _ rfl).elim
          | simp [Instr.typeAssert, aA hu, hrun]
      | false => cases hr
    · cases hr
/-- the evaluator's value is the operation's -/
theorem oG {E : Tr AV} (hL : HL P β h L) (hρ : ∀ x, VR β (rho x E) (ρ x)) {o : Oper} {r : AV} {rd : Option Nat} (hq : opQ o.op T h E = some (r, rd)) : ∃ z, VR β r z ∧ ∀ w, Lies L w → (execOp ρ o).run P w = .ok (.value z) w := by
  obtain ⟨dst, op, ty, pos, after, guard⟩ := o
  simp only at hq
  have hρ' : ∀ x, VR β (rhoE E x) (ρ x) := hρ
  have lift : ∀ {s : Sem Value} {z : Value}, (∀ w, Lies L w → s.run P w = .ok z w) → ((execOp ρ ⟨dst, op, ty, pos, after, guard⟩) = (do pure (.value (← s)))) → ∀ w, Lies L w → (execOp ρ ⟨dst, op, ty, pos, after, guard⟩).run P w = .ok (.value z) w := by
    intro s z hs he w hw
    rw [he]
    simp [hs w hw]
  cases op with
  | move x => cases hq; exact ⟨_, hρ _, fun w _ => by simp [execOp]⟩
  | assign x => cases hq; exact ⟨_, hρ _, fun w _ => by simp [execOp]⟩
  | pick c a b =>
    obtain ⟨x, hx, hq⟩ := ab hq
    cases hq
    unfold yy at hx
    split at hx
    · rename_i g hg
      cases hx
      have hc := hρ c
      rw [hg] at hc
      have hcv := hc.vinv
      refine ⟨if g then ρ a else ρ b, ?_, fun w _ => ?_⟩
      · cases g
        · exact hρ b
        · exact hρ a
      · cases g <;> simp [execOp, hcv, asBool]
    · cases hx
  | build t ps =>
    obtain ⟨x, hx, hq⟩ := ab hq
    cases hq
    obtain ⟨z, h1, h2⟩ := vt hρ' hx
    exact ⟨z, h1, lift (fun w _ => h2 w) rfl⟩
  | load t x =>
    obtain ⟨z, h1, h2⟩ := sd hL (hρ _) hq
    exact ⟨z, h1, lift h2 rfl⟩
  | nilCheck x =>
    obtain ⟨y, hx, hq⟩ := ab hq
    cases hq
    obtain ⟨h1, h2⟩ := xU (P := P) (ρ := ρ) (hρ _) hx
    exact ⟨_, h1, fun w _ => h2 _ _ rfl rfl w⟩
  | binOp op t x y ty' =>
    obtain ⟨u, hx, hq⟩ := ab hq
    cases hq
    obtain ⟨z, h1, h2⟩ := xz (hρ _) (hρ _) hx
    exact ⟨z, h1, lift (fun w _ => h2 w) rfl⟩
  | unOp op' t y =>
    obtain ⟨x, hx, hq⟩ := ab hq
    cases hq
    unfold unA at hx
    split at hx
    · rename_i v hv
      obtain ⟨u, hu, hx⟩ := ab hx
      cases hx
      have hy := hρ y
      rw [hv] at hy
      have hyv := hy.vinv
      exact ⟨u, .v u, lift (s := Op.unary op' (ρ y)) (fun w _ => by rw [hyv]; exact tb hu w) rfl⟩
    · cases hx
  | convert src dst x =>
    obtain ⟨z, h1, h2⟩ := vH hL (hρ _) hq
    exact ⟨z, h1, lift h2 rfl⟩
  | makeFunc f first caps =>
    cases hq
    refine ⟨_, .fn (VRs.map hρ' first.toList) (VRs.map hρ' caps.toList), lift (s := Instr.makeFunc f (first.map ρ) (caps.map ρ)) (fun w _ => ?_) rfl⟩
    have e1 : Array.map ρ first = (List.map ρ first.toList).toArray := by apply Array.ext'; simp
    have e2 : Array.map ρ caps = (List.map ρ caps.toList).toArray := by apply Array.ext'; simp
    rw [← e1, ← e2]
    simp [Instr.makeFunc]
  | slice t x lo hi mx =>
    obtain ⟨y, hx, hq⟩ := ab hq
    cases hq
    obtain ⟨z, h1, h2⟩ := vm (P := P) hρ' (hρ _) hx
    exact ⟨z, h1, lift (fun w _ => h2 w) rfl⟩
  | fieldAddr s x f =>
    obtain ⟨y, hx, hq⟩ := ab hq
    cases hq
    obtain ⟨z, h1, h2⟩ := xV (P := P) (hρ _) hx
    exact ⟨z, h1, lift (fun w _ => h2 w) rfl⟩
  | field s x f =>
    obtain ⟨y, hx, hq⟩ := ab hq
    cases hq
    obtain ⟨z, h1, h2⟩ := vf (P := P) (hρ _) hx
    exact ⟨z, h1, lift (fun w _ => h2 w) rfl⟩
  | indexAddr t x i =>
    obtain ⟨y, hx, hq⟩ := ab hq
    cases hq
    obtain ⟨z, h1, h2⟩ := xL (P := P) (hρ _) (hρ _) hx
    exact ⟨z, h1, lift (fun w _ => h2 w) rfl⟩
  | index t x i =>
    obtain ⟨y, hx, hq⟩ := ab hq
    cases hq
    obtain ⟨z, h1, h2⟩ := yP (P := P) (hρ _) (hρ _) hx
    exact ⟨z, h1, lift (fun w _ => h2 w) rfl⟩
  | lookup t x k ok =>
    obtain ⟨z, h1, h2⟩ := wu hL (hρ _) (hρ _) hq
    exact ⟨z, h1, lift h2 rfl⟩
  | extract x i =>
    obtain ⟨y, hx, hq⟩ := ab hq
    cases hq
    obtain ⟨z, h1, h2⟩ := vD (P := P) (hρ _) hx
    exact ⟨z, h1, lift (fun w _ => h2 w) rfl⟩
  | makeInterface t x =>
    obtain ⟨y, hx, hq⟩ := ab hq
    cases hq
    obtain ⟨z, h1, h2⟩ := xC (P := P) (hρ _) hx
    exact ⟨z, h1, lift (fun w _ => h2 w) rfl⟩
  | typeAssert x xt t ok =>
    obtain ⟨y, hx, hq⟩ := ab hq
    cases hq
    obtain ⟨z, h1, h2⟩ := xR (P := P) (xt := xt) (hρ _) hx
    exact ⟨z, h1, lift (fun w _ => h2 w) rfl⟩
  | call c =>
    obtain ⟨callee, args, argTypes⟩ := c
    cases callee with
    | value f => cases hq
    | invoke r m => cases hq
    | builtin b =>
      change opQb b args argTypes T h E = some (r, rd) at hq
      unfold opQb at hq
      split at hq
      · split at hq
        · rename_i x t ha ht
          obtain ⟨⟨n, d⟩, hn, hq⟩ := ab hq
          cases hq
          have h1 := xX hL (hρ x) hn ty
          have ea : args = #[x] := by rw [← Array.toArray_toList (xs := args), ha]
          have et : argTypes = #[t] := by rw [← Array.toArray_toList (xs := argTypes), ht]
          subst ea et
          exact ⟨_, .v _, fun w hw => by simp [execOp, resolve, invoke, builtin, h1 w hw]⟩
        · cases hq
      · split at hq
        · rename_i x y ha
          obtain ⟨u, hu, hq⟩ := ab hq
          cases hq
          have ea : args = #[x, y] := by rw [← Array.toArray_toList (xs := args), ha]
          subst ea
          unfold minA at hu
          split at hu
          · rename_i j m k n hxm hyn
            cases hjk : decide (j = k) with
            | false => rw [hjk] at hu; cases hu
            | true =>
              rw [hjk] at hu
              cases hu
              have := of_decide_eq_true hjk
              subst this
              have h1 := hρ x; have h2 := hρ y
              rw [hxm] at h1; rw [hyn] at h2
              have hxv := h1.vinv
              have hyv := h2.vinv
              exact ⟨_, .v _, fun w _ => by simp [execOp, resolve, invoke, builtin, hxv, hyv, Builtin.min_, Builtin.min2]⟩
          · cases hu
        · cases hq
      · split at hq
        · rename_i x y ha
          obtain ⟨u, hu, hq⟩ := ab hq
          cases hq
          have ea : args = #[x, y] := by rw [← Array.toArray_toList (xs := args), ha]
          subst ea
          unfold minA at hu
          split at hu
          · rename_i j m k n hxm hyn
            cases hjk : decide (j = k) with
            | false => rw [hjk] at hu; cases hu
            | true =>
              rw [hjk] at hu
              cases hu
              have := of_decide_eq_true hjk
              subst this
              have h1 := hρ x; have h2 := hρ y
              rw [hxm] at h1; rw [hyn] at h2
              have hxv := h1.vinv
              have hyv := h2.vinv
              exact ⟨_, .v _, fun w _ => by simp [execOp, resolve, invoke, builtin, hxv, hyv, Builtin.max_, Builtin.max2]⟩
          · cases hu
        · cases hq
      · cases hq
  | _ => cases hq
end
end Fw
end Go.Proofs.YtogmioecalmalaaGreat
namespace Go.Proofs.YtogmioecalmalaaGreat
namespace Fw
set_option linter.unusedVariables false
set_option linter.unusedSimpArgs false
set_option linter.unusedSectionVars false
open Go.RowKit Go.MapKept

/-! ### lists of rows -/
theorem iB {α : Type} : ∀ {L : List (List α)} {i : Nat} (r : List α), L[i]? = some [] → ((L.set i r).flatten).Perm (r ++ L.flatten)
  | [], i, r, h => by simp at h
  | x :: L, 0, r, h => by
    simp only [List.getElem?_cons_zero, Option.some.injEq] at h
    subst h
    simp
  | x :: L, i + 1, r, h => by
    have ih := iB (L := L) (i := i) r (by simpa using h)
    simp only [List.set_cons_succ, List.flatten_cons]
    exact (ih.append_left x).trans (by
      rw [← List.append_assoc, ← List.append_assoc]
      exact (List.perm_append_comm).append_right _)
theorem oW {α : Type} : ∀ {L : List (List α)} {i : Nat}, ((L.set i []).flatten).Sublist L.flatten
  | [], i => by simp
  | x :: L, 0 => by simp
  | x :: L, i + 1 => by
    simp only [List.set_cons_succ, List.flatten_cons]
    exact List.Sublist.append_left oW x
section
variable {T : Tb} {P : Program} [TbOK T P] {F : Fm} {Γ : Gh} {L L' : List Rowb} {w w' : World} {β : Bt} {n : Nat}
theorem Cur.relist (h : Cur F Γ L w) (hm : ∀ p ∈ L'.flatten, p ∈ L.flatten) (hn : (L'.flatten.map (·.1)).Nodup) : Cur F Γ L' w := by
  have key : ∀ r ∈ L', ∀ p ∈ r, ∃ r' ∈ L, p ∈ r' := fun r hr p hp => List.mem_flatten.1 (hm p (List.mem_flatten.2 ⟨r, hr, hp⟩))
  refine ⟨h.fr, h.sat, h.le, h.gnew, ?_, ?_, ?_, hn⟩
  · intro r hr p hp; obtain ⟨r', h1, h2⟩ := key r hr p hp; exact h.loc r' h1 p h2
  · intro r hr p hp; obtain ⟨r', h1, h2⟩ := key r hr p hp; exact h.sep r' h1 p h2
  · intro r hr p hp; obtain ⟨r', h1, h2⟩ := key r hr p hp; exact h.out r' h1 p h2
theorem Cur.kill (h : Cur F Γ L w) (b : Nat) : Cur F Γ (L.set b []) w :=
  h.relist (fun p hp => oW.subset hp) (h.nodup.sublist (List.Sublist.map _ oW))
theorem Cur.newAt (h : Cur F Γ L w) {i : Nat} (hi : L[i]? = some []) (o : Obj) : Cur F Γ (L.set i [(w.heap.size, o)]) (w.alloc o) := by
  have h1 := h.new o
  have hp := iB [(w.heap.size, o)] hi
  exact h1.relist (fun p hp' => by simpa using hp.subset hp') ((hp.map _).nodup_iff.2 (by simpa using h1.nodup))
/-- a row moves to another place -/
theorem Cur.move {b i : Nat} {r : Rowb} (h : Cur F Γ (L.set b r) w) (hb : b < L.length) (hi : L[i]? = some []) (hne : b ≠ i) : Cur F Γ ((L.set b []).set i r) w := by
  have e : L.set b r = (L.set b []).set b r := by simp
  have h1 : (L.set b [])[b]? = some [] := by simp [hb]
  have h2 : (L.set b [])[i]? = some [] := by rw [List.getElem?_set_ne hne]; exact hi
  have p1 := iB r h1
  have p2 := iB r h2
  rw [← e] at p1
  exact h.relist (fun p hp => p1.symm.subset (p2.subset hp)) ((p2.map _).nodup_iff.2 ((p1.map _).nodup_iff.1 h.nodup))

/-- the table with one place more -/
def bup (β : Bt) (i : Nat) (p : Pl) : Bt := fun j => if j = i then some p else β j
theorem db {i : Nat} {p : Pl} (h : β i = none) : β.le (bup β i p) := fun j q hj => by
  unfold bup
  split
  · rename_i e; subst e; rw [h] at hj; cases hj
  · exact hj
theorem ep {i : Nat} {p : Pl} : bup β i p i = some p := by simp [bup]
theorem MH.setNew {H : Hp} {id : Nat} {p : Pl} {ao : AO} {row : Rowb} (h : MH P β H.get n L) (hid : id < n) (hb : β id = none) (ho : OR P (bup β id p) (some p) (some ao) row) : MH P (bup β id p) (H.set id (some ao)).get n (L.set id row) := by
  refine ⟨by simp [h.len], fun i hi => ?_, fun i r hr => ?_, fun i hi => ?_⟩
  · unfold bup; rw [if_neg (by omega)]; exact h.new i hi
  · rw [Tr.get_set]
    by_cases he : i = id
    · subst he
      rw [if_pos rfl, ep]
      have : (L.set i row)[i]? = some row := by simp [h.len, hid]
      rw [this] at hr; cases hr; exact ho
    · rw [if_neg he, List.getElem?_set_ne (Ne.symm he)] at *
      have h1 := h.row i r hr
      unfold bup
      rw [if_neg he]
      exact h1.mono (db hb)
  · rw [Tr.get_set, if_neg (by omega)]; exact h.out i hi
theorem MH.setAt {H : Hp} {b : Nat} {ao : AO} {row : Rowb} (h : MH P β H.get n L) (hb : b < n) (ho : OR P β (β b) (some ao) row) : MH P β (H.set b (some ao)).get n (L.set b row) := by
  refine ⟨by simp [h.len], h.new, fun i r hr => ?_, fun i hi => ?_⟩
  · rw [Tr.get_set]
    by_cases he : i = b
    · subst he
      rw [if_pos rfl]
      have : (L.set i row)[i]? = some row := by simp [h.len, hb]
      rw [this] at hr; cases hr; exact ho
    · rw [if_neg he, List.getElem?_set_ne (Ne.symm he)] at *
      exact h.row i r hr
  · rw [Tr.get_set, if_neg (by omega)]; exact h.out i hi
theorem MH.kill {H : Hp} {b : Nat} (h : MH P β H.get n L) (hb : b < n) : MH P β (H.set b none).get n (L.set b []) := by
  refine ⟨by simp [h.len], h.new, fun i r hr => ?_, fun i hi => ?_⟩
  · rw [Tr.get_set]
    by_cases he : i = b
    · subst he
      rw [if_pos rfl]
      have : (L.set i [])[i]? = some [] := by simp [h.len, hb]
      rw [this] at hr; cases hr; rfl
    · rw [if_neg he, List.getElem?_set_ne (Ne.symm he)] at *
      exact h.row i r hr
  · rw [Tr.get_set, if_neg (by omega)]; exact h.out i hi
theorem MH.lt {H : Hp} {b : Nat} {o : AO} (h : MH P β H.get n L) (hb : H.get b = some o) : b < n := by
  rcases Nat.lt_or_ge b n with h1 | h1
  · exact h1
  · rw [h.out b h1] at hb; cases hb
/-- a number that is free -/
structure Free (β : Bt) (H : Hp) (n id : Nat) : Prop where
  lt : id < n
  pl : β id = none
  no : H.get id = none
theorem MH.free {H : Hp} {id : Nat} (h : MH P β H.get n L) (hf : Free β H n id) : L[id]? = some [] := by
  have hlt : id < L.length := by rw [h.len]; exact hf.lt
  have := h.row id L[id] (List.getElem?_eq_getElem hlt)
  rw [hf.no] at this
  rw [List.getElem?_eq_getElem hlt]
  exact congrArg some this

/-- an operation that yields v -/
def Eo (P : Program) (F : Fm) (Γ : Gh) (β : Bt) (n : Nat) (H' : Hp) (a : AV) (s : Sem Value) (w : World) : Prop := ∃ β' L' v w', β.le β' ∧ s.run P w = .ok v w' ∧ VR β' a v ∧ MH P β' H'.get n L' ∧ Cur F Γ L' w'
/-- an operation that yields nothing -/
def Eu (P : Program) (F : Fm) (Γ : Gh) (β : Bt) (n : Nat) (H' : Hp) (s : Sem Unit) (w : World) : Prop := ∃ L' w', s.run P w = .ok () w' ∧ MH P β H'.get n L' ∧ Cur F Γ L' w'

theorem OC.of_cr {cs : List AV} {g : Nat} {vs : List Value} (h : CR β cs vs) : OC β (g, 0, vs.length) cs vs.toArray (0, 0) := by
  refine ⟨by simp, fun j _ => nfz0 j, fun j a hj => ?_⟩
  obtain ⟨v, h1, h2⟩ := h.rel.get hj
  exact ⟨v, by simpa using h1, h2, h.one v (List.mem_of_getElem? h1)⟩
theorem CR.sym {cs : List AV} {a : Array Value} (h : CR β cs a.toList) : OC β (0, 0, a.size) cs a (0, 0) := by
  have := OC.of_cr (g := 0) h
  simpa using this
/-- a new block of cells -/
theorem kw {H : Hp} {id : Nat} (hM : MH P β H.get n L) (hf : Free β H n id) (hw : Cur F Γ L w) {cs : List AV} {arr : Array Value} {e : TypeId} {fz : Nat × Nat} {k : Nat} (hc : OC β (w.heap.size, k, arr.size) cs arr fz) :
    MH P (bup β id (w.heap.size, k, arr.size)) (H.set id (some (.cells cs e))).get n (L.set id [(w.heap.size, .cells arr e fz)]) ∧ Cur F Γ (L.set id [(w.heap.size, .cells arr e fz)]) (w.alloc (.cells arr e fz)) :=
  ⟨hM.setNew hf.lt hf.pl ⟨_, arr, fz, rfl, rfl, hc.size, hc.free, fun j a hj => let ⟨v, h1, h2, h3⟩ := hc.get j a hj; ⟨v, h1, h2.mono (db hf.pl), h3⟩⟩, hw.newAt (hM.free hf) _⟩
theorem pT {H H' : Hp} {id : Nat} {t : TypeId} {v : Option AV} {a : AV} {x : Value} (hM : MH P β H.get n L) (hf : Free β H n id) (hw : Cur F Γ L w) (hv : ∀ b, v = some b → VR β b x) (hr : pi T H id t v = some (a, H')) :
    Eo P F Γ β n H' a (do pure (.pointer (some (← newVar t x)))) w := by
  unfold pi at hr
  obtain ⟨z0, hz0, hr⟩ := ab hr
  obtain ⟨z, hz, hr⟩ := ab hr
  cases hr
  have hc := je (hv _ hz0) hz
  have hoc : OC β (w.heap.size, 0, x.cells.size) z x.cells (0, 0) := by
    have := OC.of_cr (g := w.heap.size) hc
    simpa using this
  obtain ⟨h1, h2⟩ := kw (e := t) hM hf hw hoc
  refine ⟨_, _, .pointer (some ⟨w.heap.size, 0 + 0, none⟩), _, db hf.pl, ?_, .ptr ep, h1, h2⟩
  simp [gG]

/-! ### stores -/
theorem j6 (g : Nat) (e : TypeId) (fz : Nat × Nat) : ∀ (vs : List Value) (o : Nat) (arr : Array Value) (w : World), w.heap[g]? = some (.cells arr e fz) → o + vs.length ≤ arr.size →
    (w.setCells g o vs).heap[g]? = some (.cells (setL arr.toList o vs).toArray e fz) ∧ Fr (fun k => k = g) w (w.setCells g o vs)
  | [], o, arr, w, hg, _ => by
    refine ⟨?_, Fr.refl _ _⟩
    rw [oY]
    simpa [World.setCells] using hg
  | v :: vs, o, arr, w, hg, hl => by
    simp only [List.length_cons] at hl
    have h1 : (w.setCell ⟨g, o, none⟩ v).heap[g]? = some (.cells (arr.setIfInBounds o v) e fz) := by
      simp [World.setCell, Array.getElem?_modify, hg]
    have hfr : Fr (fun k => k = g) w (w.setCell ⟨g, o, none⟩ v) := ⟨rfl, rfl, rfl, fun _ => Nat.le_refl _, by simp [World.setCell], fun k _ hk => by
      simp only [World.setCell, Array.getElem?_modify]
      rw [if_neg (fun e => hk e.symm)]⟩
    obtain ⟨h2, h3⟩ := j6 g e fz vs (o + 1) (arr.setIfInBounds o v) _ h1 (by simp; omega)
    refine ⟨?_, hfr.trans h3⟩
    simp only [World.setCells]
    rw [h2]
    congr 3
    apply List.ext_getElem?
    intro j
    rw [iP (by simp; omega), iP (by simp; omega)]
    simp only [Array.toList_setIfInBounds, List.getElem?_set, List.length_cons]
    by_cases h4 : o = j
    · subst h4
      rw [if_neg (by omega), if_pos (by omega)]
      simp; omega
    · by_cases h5 : o + 1 ≤ j ∧ j < o + 1 + vs.length
      · rw [if_pos (by omega), if_pos (by omega), show j - o = (j - (o + 1)) + 1 by omega]
        simp
      · rw [if_neg (by omega), if_neg h4, if_neg (by omega)]
theorem nY : ∀ {cs : List AV} {o : Nat} {l cs' : List AV}, wrC cs o l = some cs' → ∀ j, cs'[j]? = if o ≤ j ∧ j < o + l.length then l[j - o]? else cs[j]?
  | cs, o, [], cs', hw, j => by
    have : cs' = cs := by cases cs <;> (unfold wrC at hw; cases hw; rfl)
    subst this
    rw [if_neg (by simp <;> omega)]
  | [], o, a :: l, cs', hw, j => by unfold wrC at hw; cases hw
  | c :: cs, 0, a :: l, cs', hw, j => by
    unfold wrC at hw
    obtain ⟨r, hr, hw⟩ := ab hw
    cases hw
    cases j with
    | zero => simp
    | succ j =>
      have := nY (cs := cs) (o := 0) hr j
      simp only [List.getElem?_cons_succ, this, List.length_cons]
      by_cases h1 : j < l.length
      · rw [if_pos (by omega), if_pos (by omega)]; simp
      · rw [if_neg (by omega), if_neg (by omega)]
  | c :: cs, o + 1, a :: l, cs', hw, j => by
    unfold wrC at hw
    obtain ⟨r, hr, hw⟩ := ab hw
    cases hw
    cases j with
    | zero => rw [if_neg (by omega)]; simp
    | succ j =>
      have := nY (cs := cs) (o := o) hr j
      simp only [List.getElem?_cons_succ, this]
      by_cases h1 : o ≤ j ∧ j < o + (a :: l).length
      · rw [if_pos h1, if_pos (by omega), show j + 1 - (o + 1) = j - o by omega]
      · rw [if_neg h1, if_neg (by omega)]
theorem ug {cs : List AV} {o : Nat} {l cs' : List AV} (hw : wrC cs o l = some cs') : cs'.length = cs.length ∧ (l ≠ [] → o + l.length ≤ cs.length) := by
  have h1 := nY hw
  have hlen : cs'.length = cs.length := by
    have : ∀ {cs : List AV} {o : Nat} {l cs' : List AV}, wrC cs o l = some cs' → cs'.length = cs.length := by
      intro cs
      induction cs with
      | nil => intro o l cs' hw; cases l <;> (unfold wrC at hw; cases hw); rfl
      | cons c cs ih =>
        intro o l cs' hw
        cases l with
        | nil => unfold wrC at hw; cases hw; rfl
        | cons a l =>
          cases o <;> (unfold wrC at hw; obtain ⟨r, hr, hw⟩ := ab hw; cases hw; simp [ih hr])
    exact this hw
  refine ⟨hlen, fun hne => ?_⟩
  have hpos : 0 < l.length := List.length_pos_iff.2 hne
  have h2 := h1 (o + l.length - 1)
  rw [if_pos (by omega)] at h2
  rw [show o + l.length - 1 - o = l.length - 1 by omega, List.getElem?_eq_getElem (l := l) (i := l.length - 1) (by omega)] at h2
  have := (List.getElem?_eq_some_iff.1 h2).1
  omega
theorem lh {g j : Nat} {arr : Array Value} {e : TypeId} {fz : Nat × Nat} (hg : w.heap[g]? = some (.cells arr e fz)) (h : nfz fz j) : w.frozen? ⟨g, j, none⟩ = false := by
  obtain ⟨lo, hi⟩ := fz
  unfold nfz at h
  simp only [World.frozen?, hg]
  by_cases h1 : lo ≤ j
  · have : ¬ j < hi := fun h2 => h ⟨h1, h2⟩
    simp [this]
  · simp [h1]
/-- cells of a block of the run's own are written over -/
theorem rJ {H : Hp} {b : Nat} {cs cs' l : List AV} {e : TypeId} {o g k m : Nat} {vs : List Value} (hM : MH P β H.get n L) (hw : Cur F Γ L w) (hb : H.get b = some (.cells cs e)) (hp : β b = some (g, k, m)) (hwr : wrC cs o l = some cs') (hc : CR β l vs) :
    (storeCells ⟨g, k + o, none⟩ vs).run P w = .ok () (w.setCells g (k + o) vs) ∧ ∃ row, MH P β (H.set b (some (.cells cs' e))).get n (L.set b row) ∧ Cur F Γ (L.set b row) (w.setCells g (k + o) vs) := by
  obtain ⟨row, hrow, q, arr, fz, h1, rfl, h2⟩ := hM.at_ hb
  rw [hp] at h1
  cases h1
  have hg : w.heap[g]? = some (.cells arr e fz) := hw.at_ hrow (p := (g, .cells arr e fz)) (by simp)
  obtain ⟨hlen, hfit⟩ := ug hwr
  have hlv : l.length = vs.length := hc.rel.len
  have hroom : vs ≠ [] → k + o + vs.length ≤ arr.size := by
    intro hne
    have hlne : l ≠ [] := fun e => hne (List.length_eq_zero_iff.1 (by rw [← hlv, e]; rfl))
    have h3 := hfit hlne
    have hpos : 0 < l.length := List.length_pos_iff.2 hlne
    obtain ⟨v, hv, _⟩ := h2.get (o + l.length - 1) _ (List.getElem?_eq_getElem (by omega))
    have := (Array.getElem?_eq_some_iff.1 hv).1
    simp only at this
    omega
  by_cases hne : vs = []
  · subst hne
    have hl0 : l = [] := List.length_eq_zero_iff.1 hlv
    subst hl0
    have hcs : cs' = cs := by cases cs <;> (unfold wrC at hwr; cases hwr; rfl)
    subst hcs
    have e1 : w.setCells g (k + o) [] = w := rfl
    rw [e1]
    have hset : L.set b [(g, .cells arr e fz)] = L := by
      apply List.ext_getElem?
      intro i
      by_cases hi : b = i
      · subst hi; rw [hrow]; simp [(List.getElem?_eq_some_iff.1 hrow).1]
      · rw [List.getElem?_set_ne hi]
    refine ⟨rfl, _, hM.setAt (hM.lt hb) ?_, by rw [hset]; exact hw⟩
    rw [hp]
    exact ⟨_, arr, fz, rfl, rfl, h2⟩
  · have hr := hroom hne
    obtain ⟨g1, g2⟩ := j6 g e fz vs (k + o) arr w hg hr
    have hst := run_storeCells_cells (P := P) g (k + o) vs 0 w (fun j hj => by
      rw [cell_of_row w g _ arr e fz hg, Array.getElem?_eq_getElem (by omega)]; rfl) (fun j hj => by
      have := h2.free (k + o + 0 + j) (by omega)
      exact lh hg this) hc.one
    simp only [Nat.add_zero] at hst
    refine ⟨hst, [(g, .cells (setL arr.toList (k + o) vs).toArray e fz)], hM.setAt (hM.lt hb) ?_, ?_⟩
    · rw [hp]
      refine ⟨_, _, fz, rfl, rfl, ?_, ?_, ?_⟩
      · simp [setL]; have := h2.size; simp at this; omega
      · intro j hj
        refine h2.free j ?_
        have : (setL arr.toList (k + o) vs).length = arr.size := by simp [setL]; omega
        simpa [this] using hj
      · intro j a hj
        rw [nY hwr] at hj
        simp only [List.getElem?_toArray]
        rw [iP (by simpa using hr)]
        split at hj
        · rename_i hin
          obtain ⟨v, hv, hvr⟩ := hc.rel.get hj
          refine ⟨v, ?_, hvr, hc.one v (List.mem_of_getElem? hv)⟩
          try simp only
          rw [if_pos (by omega), show k + j - (k + o) = j - o by omega]
          exact hv
        · rename_i hout
          obtain ⟨v, hv, h3, h4⟩ := h2.get j a hj
          refine ⟨v, ?_, h3, h4⟩
          try simp only at hv ⊢
          rw [if_neg (by omega), Array.getElem?_toList]
          exact hv
    · refine hw.set hrow (g2.mono fun q hq => ⟨(g, .cells arr e fz), by simp, hq.symm⟩) (fun p hp => ?_) (fun p hp => .inl ⟨(g, .cells arr e fz), by simp, by rw [List.mem_singleton.1 hp]⟩) (by simp)
      rw [List.mem_singleton.1 hp]
      exact g1
theorem uT {H H' : Hp} {t : TypeId} {a x r : AV} {u v : Value} (hM : MH P β H.get n L) (hw : Cur F Γ L w) (ha : VR β a u) (hx : VR β x v) (hr : tD T H t a x = some (r, H')) :
    Eu P F Γ β n H' (Instr.storeAt t u v) w ∧ r = jH := by
  unfold tD at hr
  split at hr
  · rename_i b o
    split at hr
    · rename_i cs e hb
      obtain ⟨z, hz, hr⟩ := ab hr
      obtain ⟨l, hl, hr⟩ := ab hr
      obtain ⟨hn, hr⟩ := aN hr
      obtain ⟨cs', hwr, hr⟩ := ab hr
      cases hr
      have hn := Nat.eq_of_beq_eq_true hn
      have hc := je hx hl
      cases ha with
      | ptr hp =>
        obtain ⟨h1, row, h2, h3⟩ := rJ (P := P) hM hw hb hp hwr hc
        refine ⟨⟨_, _, ?_, h2, h3⟩, rfl⟩
        have hsz : v.cells.size = z := by rw [← hn, hc.rel.len]; simp
        simp [Instr.storeAt, Instr.sureAddr, storeVar, eE hz w, hsz, h1]
    · cases hr
  · cases hr

/-! ### maps -/
theorem ER.push : ∀ {es : List (AV × AV × Nat)} {l : List MapEntry} {a : AV × AV × Nat} {e : MapEntry}, ER β es l → VR β a.1 e.key → VR β a.2.1 e.val → a.2.2 = e.born → ER β (es ++ [a]) (l ++ [e])
  | [], [], _, _, _, h1, h2, h3 => ⟨⟨h1, h2, h3⟩, trivial⟩
  | [], _ :: _, _, _, h, _, _, _ => h.elim
  | _ :: _, [], _, _, h, _, _, _ => h.elim
  | _ :: _, _ :: _, _, _, ⟨h0, h⟩, h1, h2, h3 => ⟨h0, ER.push h h1 h2 h3⟩
theorem ER.modify {k x : AV} {kv xv : Value} (hk : VR β k kv) (hx : VR β x xv) : ∀ {es : List (AV × AV × Nat)} {l : List MapEntry} (i : Nat), ER β es l → ER β (es.modify i fun e => (k, x, e.2.2)) (l.modify i fun e => { e with key := kv, val := xv })
  | [], [], i, _ => by simp [ER]
  | [], _ :: _, _, h => h.elim
  | _ :: _, [], _, h => h.elim
  | a :: es, e :: l, 0, ⟨⟨_, _, h3⟩, h⟩ => by simp only [List.modify_zero_cons]; exact ⟨⟨hk, hx, h3⟩, h⟩
  | a :: es, e :: l, i + 1, ⟨h0, h⟩ => by simp only [List.modify_succ_cons]; exact ⟨h0, ER.modify hk hx i h⟩
theorem ER.erase : ∀ {es : List (AV × AV × Nat)} {l : List MapEntry} (i : Nat), ER β es l → ER β (es.eraseIdx i) (l.eraseIdx i)
  | [], [], i, _ => by simp [ER]
  | [], _ :: _, _, h => h.elim
  | _ :: _, [], _, h => h.elim
  | a :: es, e :: l, 0, ⟨_, h⟩ => by simpa using h
  | a :: es, e :: l, i + 1, ⟨h0, h⟩ => by simp only [List.eraseIdx_cons_succ]; exact ⟨h0, ER.erase i h⟩
theorem oo {H : Hp} {b g : Nat} {o o' : AO} {x x' : Obj} (hM : MH P β H.get n L) (hw : Cur F Γ L w) (hb : H.get b = some o) (hrow : L[b]? = some [(g, x)]) (ho : OR P β (β b) (some o') [(g, x')]) :
    MH P β (H.set b (some o')).get n (L.set b [(g, x')]) ∧ Cur F Γ (L.set b [(g, x')]) { w with heap := w.heap.setIfInBounds g x' } := by
  have hg : w.heap[g]? = some x := hw.at_ hrow (p := (g, x)) (by simp)
  have hlt := bP hg
  refine ⟨hM.setAt (hM.lt hb) ho, ?_⟩
  refine hw.set hrow (w' := { w with heap := w.heap.setIfInBounds g x' }) ⟨rfl, rfl, rfl, fun _ => Nat.le_refl _, by simp, fun k _ hk => ?_⟩ (fun p hp => ?_) (fun p hp => .inl ⟨(g, x), by simp, by rw [List.mem_singleton.1 hp]⟩) (by simp)
  · have : g ≠ k := fun e => hk ⟨(g, x), by simp, e⟩
    simp [this]
  · rw [List.mem_singleton.1 hp]
    simp [hlt]
theorem lW {H : Hp} {id : Nat} (hM : MH P β H.get n L) (hf : Free β H n id) (hw : Cur F Γ L w) {o : AO} {x : Obj} (ho : OR P (bup β id (w.heap.size, 0, 0)) (some (w.heap.size, 0, 0)) (some o) [(w.heap.size, x)]) :
    MH P (bup β id (w.heap.size, 0, 0)) (H.set id (some o)).get n (L.set id [(w.heap.size, x)]) ∧ Cur F Γ (L.set id [(w.heap.size, x)]) (w.alloc x) :=
  ⟨hM.setNew hf.lt hf.pl ho, hw.newAt (hM.free hf) _⟩
theorem tR {H H' : Hp} {id : Nat} {t : TypeId} {r : Option AV} {rv : Option Value} {a : AV} (hM : MH P β H.get n L) (hf : Free β H n id) (hw : Cur F Γ L w) (hv : ∀ b, r = some b → ∃ y, rv = some y ∧ VR β b y) (hn : r = none → rv = none) (hr : mkmA T H id t r = some (a, H')) :
    Eo P F Γ β n H' a (Instr.makeMap t rv) w := by
  have key := lW (o := .map [] 0) (x := .map #[] 0) hM hf hw ⟨_, #[], rfl, rfl, trivial⟩
  have fin : ∀ {s : Sem Value}, s.run P w = .ok (.map (some w.heap.size)) (w.alloc (.map #[] 0)) → Eo P F Γ β n (H.set id (some (.map [] 0))) (.map id) s w := fun hs =>
    ⟨_, _, _, _, db hf.pl, hs, .map ep, key.1, key.2⟩
  unfold mkmA at hr
  split at hr
  · rename_i hu
    cases hr
    rw [hn rfl]
    exact fin (by simp [Instr.makeMap, newObj, Sem.run])
  · rename_i kt et kd i hu
    cases hr
    obtain ⟨y, rfl, hy⟩ := hv _ rfl
    cases hy
    exact fin (by simp [Instr.makeMap, newObj, Sem.run, aA hu, asInt, asIntOf])
  · cases hr
theorem tZ {H H' : Hp} {t : TypeId} {m k x r : AV} {mv kv xv : Value} (hM : MH P β H.get n L) (hw : Cur F Γ L w) (hm : VR β m mv) (hk : VR β k kv) (hx : VR β x xv) (hr : mupA T H t m k x = some (r, H')) :
    Eu P F Γ β n H' (Instr.mapUpdate t mv kv xv) w ∧ r = jH := by
  unfold mupA at hr
  split at hr
  · rename_i kt et b hu
    split at hr
    · rename_i es c hb
      obtain ⟨hkt, hr⟩ := aN hr
      obtain ⟨r0, hf, hr⟩ := ab hr
      obtain ⟨d, hd, hkey, rfl⟩ := mc hkt hk
      obtain ⟨row, hrow, g, arr, h1, rfl, h2⟩ := hM.at_ hb
      have hg : w.heap[g]? = some (.map arr c) := hw.at_ hrow (p := (g, .map arr c)) (by simp)
      cases hm with
      | map h4 =>
        rw [h1] at h4
        cases h4
        have hck := run_checkKey (w := w) hd hkey false 9999
        have hgo := Go.MapKept.run_getObj_map (P := P) hg
        rcases lz hkey h2 hf with ⟨rfl, g2⟩ | ⟨j, a, e, rfl, g2, g3, g4, g5, _⟩
        · simp only at hr
          cases hr
          obtain ⟨k1, k2⟩ := oo (o' := .map (es ++ [(.v kv, x, c)]) (c + 1)) (x' := .map (arr.push { key := kv, val := xv, born := c }) (c + 1)) hM hw hb hrow (by
            rw [h1]
            exact ⟨g, _, rfl, rfl, by simpa using h2.push (a := (.v kv, x, c)) (e := { key := kv, val := xv, born := c }) hk hx rfl⟩)
          refine ⟨⟨_, _, ?_, k1, k2⟩, rfl⟩
          have h5 := run_findKey (w := w) hd g2
          simp [Instr.mapUpdate, aA hu, hgo, hck, h5, Go.MapKept.run_setObj_map _ hg]
        · simp only at hr
          cases hr
          refine ⟨?_, rfl⟩
          simp only [Nat.zero_add] at g2 ⊢
          obtain ⟨k1, k2⟩ := oo (o' := .map (es.modify j fun e => (.v kv, x, e.2.2)) c) (x' := .map (arr.modify j fun e => { e with key := kv, val := xv }) c) hM hw hb hrow (by
            rw [h1]
            refine ⟨g, _, rfl, rfl, ?_⟩
            rw [Array.toList_modify]
            exact h2.modify hk hx j)
          refine ⟨_, _, ?_, k1, k2⟩
          have h5 := run_findKey (w := w) hd g2
          have h6 : arr[j]? = some e := by rw [← Array.getElem?_toList]; exact g3
          have h7 : (Instr.keyThatStays kv kv).run P w = .ok kv w := by
            have : Instr.sameBits 10000 kv kv = true := by cases d <;> cases kv <;> simp_all [IsKey, Instr.sameBits, iz]
            simp [Instr.keyThatStays, this]
          simp [Instr.mapUpdate, aA hu, hgo, hck, h5, h6, g5, h7, Go.MapKept.run_setObj_map _ hg]
    · cases hr
  · cases hr
theorem xn {H H' : Hp} {t : TypeId} {m k r : AV} {mv kv : Value} (hM : MH P β H.get n L) (hw : Cur F Γ L w) (hm : VR β m mv) (hk : VR β k kv) (ts : Array TypeId) (h0 : ts[0]? = some t) (ty : TypeId) (hr : delA T H t m k = some (r, H')) :
    Eo P F Γ β n H' r (Builtin.delete_ ts ty #[mv, kv]) w := by
  unfold delA at hr
  split at hr
  · rename_i kt et b hu
    split at hr
    · rename_i es c hb
      obtain ⟨hkt, hr⟩ := aN hr
      obtain ⟨r0, hf, hr⟩ := ab hr
      obtain ⟨d, hd, hkey, rfl⟩ := mc hkt hk
      obtain ⟨row, hrow, g, arr, h1, rfl, h2⟩ := hM.at_ hb
      have hg : w.heap[g]? = some (.map arr c) := hw.at_ hrow (p := (g, .map arr c)) (by simp)
      cases hm with
      | map h4 =>
        rw [h1] at h4
        cases h4
        have hck := run_checkKey (w := w) hd hkey arr.isEmpty 9999
        have hgo := Go.MapKept.run_getObj_map (P := P) hg
        rcases lz hkey h2 hf with ⟨rfl, g2⟩ | ⟨j, a, e, rfl, g2, g3, g4, g5, _⟩
        · simp only at hr
          cases hr
          have h5 := run_findKey (w := w) hd g2
          have hset : ({ w with heap := w.heap.setIfInBounds g (.map arr c) } : World) = w := by
            have : w.heap.setIfInBounds g (.map arr c) = w.heap := by
              apply Array.ext_getElem?
              intro i
              by_cases he : g = i
              · subst he
                obtain ⟨_, e⟩ := Array.getElem?_eq_some_iff.1 hg
                simp [hg, bP hg]
                exact e.symm
              · simp [he]
            rw [this]
          refine ⟨β, L, .tuple #[], w, Bt.le.refl _, ?_, .tup .nil, hM, hw⟩
          simp [Builtin.delete_, h0, aA hu, hgo, hck, h5, Go.MapKept.run_setObj_map _ hg, hset]
        · simp only at hr
          cases hr
          simp only [Nat.zero_add] at g2 ⊢
          obtain ⟨k1, k2⟩ := oo (o' := .map (es.eraseIdx j) c) (x' := .map (arr.eraseIdxIfInBounds j) c) hM hw hb hrow (by
            rw [h1]
            refine ⟨g, _, rfl, rfl, ?_⟩
            rw [Array.toList_eraseIdxIfInBounds]
            exact h2.erase j)
          have h5 := run_findKey (w := w) hd g2
          refine ⟨β, _, .tuple #[], _, Bt.le.refl _, ?_, .tup .nil, k1, k2⟩
          simp [Builtin.delete_, h0, aA hu, hgo, hck, h5, Go.MapKept.run_setObj_map _ hg]
    · cases hr
  · rename_i kt et hu
    obtain ⟨hkt, hr⟩ := aN hr
    cases hr
    obtain ⟨d, hd, hkey, rfl⟩ := mc hkt hk
    cases hm
    have hck := run_checkKey (w := w) hd hkey true 9999
    refine ⟨β, L, .tuple #[], w, Bt.le.refl _, ?_, .tup .nil, hM, hw⟩
    simp [Builtin.delete_, h0, aA hu, hck]
  · cases hr
end
end Fw
end Go.Proofs.YtogmioecalmalaaGreat
namespace Go.Proofs.YtogmioecalmalaaGreat
namespace Fw
set_option linter.unusedVariables false
set_option linter.unusedSimpArgs false
set_option linter.unusedSectionVars false
open Go.RowKit Go.MapKept
section
variable {T : Tb} {P : Program} [TbOK T P] {F : Fm} {Γ : Gh} {L : List Rowb} {w : World} {β : Bt} {n : Nat} {ρA : Operand → AV} {ρ : Operand → Value}

theorem qC {e : TypeId} {z : List AV} (h : zcA T e = some z) : ∃ (i : TypeInfo) (v : Value), P.info? e = some i ∧ i.zero = some v ∧ CR β z v.cells.toList ∧ v.cells.size = i.size ∧ z.length = i.size ∧ 0 < i.size := by
  unfold zcA at h
  obtain ⟨sz, hs, h⟩ := ab h
  obtain ⟨z0, hz, h⟩ := ab h
  obtain ⟨z', hc, h⟩ := ab h
  obtain ⟨hb, h⟩ := aN h
  cases h
  obtain ⟨v, i, hi, hzv, hv, _, _⟩ := li (β := β) hz
  obtain ⟨i', hi', hsz⟩ := wA (P := P) hs
  rw [hi] at hi'
  cases hi'
  have h1 := Nat.eq_of_beq_eq_true (av hb)
  have h2 : 0 < sz := by simpa [Nat.blt_eq] using ap hb
  have hcr := je hv hc
  refine ⟨i, v, hi, hzv, hcr, ?_, by omega, by omega⟩
  have := hcr.rel.len
  simp at this; omega
def repL : Nat → List Value → List Value
  | 0, _ => []
  | n + 1, z => z ++ repL n z
theorem xf (n : Nat) (z : List Value) : (repL n z).length = n * z.length := by
  induction n with
  | zero => simp [repL]
  | succ n ih => simp [repL, ih, Nat.add_mul]; omega
theorem oh {z : List AV} {v : List Value} (h : CR β z v) : ∀ n, CR β (repA n z) (repL n v)
  | 0 => ⟨.nil, by simp [repL]⟩
  | n + 1 => h.app (oh h n)
theorem rL {z : List Value} (hz : 0 < z.length) : ∀ (n i : Nat), i < n * z.length → (repL n z)[i]? = z[i % z.length]?
  | 0, i, h => by omega
  | n + 1, i, h => by
    unfold repL
    by_cases hi : i < z.length
    · rw [List.getElem?_append_left hi, Nat.mod_eq_of_lt hi]
    · rw [List.getElem?_append_right (by omega), rL hz n (i - z.length) (by rw [Nat.add_mul] at h; omega)]
      congr 1
      conv => rhs; rw [show i = (i - z.length) + z.length by omega, Nat.add_mod_right]
theorem mS (z : Array Value) (hz : 0 < z.size) (n : Nat) : (Array.range (n * z.size)).map (fun i => z[i % z.size]!) = (repL n z.toList).toArray := by
  apply Array.ext_getElem?
  intro i
  simp only [Array.getElem?_map, List.getElem?_toArray]
  by_cases hi : i < n * z.size
  · rw [rL (by simpa using hz) n i (by simpa using hi)]
    have hm : i % z.size < z.size := Nat.mod_lt _ hz
    simp [hi, Array.getElem?_eq_getElem hm, getElem!_pos z (i % z.size) hm]
  · rw [Array.getElem?_eq_none (by simp; omega), List.getElem?_eq_none (by rw [xf]; simp; omega)]
    rfl
theorem y5 {H H' : Hp} {id : Nat} {t : TypeId} {k : Nat} {ps : Array (Nat × Operand)} {a : AV} (hM : MH P β H.get n L) (hf : Free β H n id) (hw : Cur F Γ L w) (hρ : ∀ x, VR β (ρA x) (ρ x)) (hr : bslA T H id t k (eF ρA ps) = some (a, H')) :
    Eo P F Γ β n H' a (Instr.buildSlice t k (ps.map fun (i, x) => (i, ρ x))) w := by
  unfold bslA eF at hr
  split at hr
  · rename_i e hu
    obtain ⟨z, hz, hr⟩ := ab hr
    obtain ⟨hk, hr⟩ := aN hr
    obtain ⟨cs, hfl, hr⟩ := ab hr
    cases hr
    have hk := Nat.le_of_ble_eq_true hk
    obtain ⟨i, v, hi, hzv, hc, hvs, hzl, hpos⟩ := qC (β := β) hz
    have hrep := oh hc k
    obtain ⟨ys, g1, g2, g3⟩ := lF hρ ps.toList hrep hfl
    obtain ⟨h1, h2⟩ := kw (e := e) (k := 0) (arr := ys.toArray) hM hf hw (by simpa using OC.of_cr (g := w.heap.size) g2)
    refine ⟨_, _, .slice (some ⟨w.heap.size, 0 + 0, none⟩) k k, _, db hf.pl, ?_, .slc ep, h1, h2⟩
    have hn : ¬ (k * i.size > 2 ^ 24) := by rw [← hzl]; omega
    have hsz : ∀ w, (sizeOf e).run P w = .ok i.size w := fun w => by simp [sizeOf, typeInfo, hi]
    have hzr : ∀ w, (zeroValue e).run P w = .ok v w := fun w => by simp [zeroValue, typeInfo, hi, hzv]
    have hr := mS v.cells (by omega) k
    rw [hvs] at hr
    rw [hzl] at g1
    unfold Instr.buildSlice
    simp only [Sem.run_bind, aA hu, Result.andThen_ok, hsz, if_neg hn, Sem.run_pure]
    by_cases h0 : k * i.size = 0
    · have hk0 : k = 0 := by rcases Nat.mul_eq_zero.1 h0 with h | h <;> omega
      subst hk0
      simp only [Nat.zero_mul, if_true, Sem.run_bind, Sem.run_pure, Result.andThen_ok, gz]
      have e1 : (Array.map (fun x => (#[] : Array Value)[x % (#[] : Array Value).size]!) (Array.range 0)) = (repL 0 v.cells.toList).toArray := by simp [repL]
      rw [e1, g1]
      rfl
    · rw [if_neg h0]
      simp only [Sem.run_bind, hzr, Result.andThen_ok, Sem.run_pure, gz]
      rw [hvs, hr, g1]
      rfl
  · cases hr
theorem xl {H H' : Hp} {id : Nat} {t : TypeId} {x y a : AV} {u v : Value} (hM : MH P β H.get n L) (hf : Free β H n id) (hw : Cur F Γ L w) (hx : VR β x u) (hy : VR β y v) (hr : mksA T H id t x y = some (a, H')) :
    Eo P F Γ β n H' a (Instr.makeSlice t u v) w := by
  unfold mksA at hr
  split at hr
  · rename_i e l c hu
    obtain ⟨i, hi, hr⟩ := ab hr
    have hi := k8 (P := P) hi
    obtain ⟨z, hz, hr⟩ := ab hr
    obtain ⟨hb, hr⟩ := aN hr
    cases hr
    cases hx; cases hy
    have b1 := of_decide_eq_true (av (av (av hb)))
    have b2 := of_decide_eq_true (ap (av (av hb)))
    have b3 := of_decide_eq_true (ap (av hb))
    have b4 : i.bytes < 1024 := by simpa [Nat.blt_eq] using ap hb
    obtain ⟨i', zv, hi', hzv, hc, hvs, hzl, hpos⟩ := qC (β := β) hz
    rw [hi] at hi'
    cases hi'
    have hrep := oh hc c.toNat
    obtain ⟨h1, h2⟩ := kw (e := e) (k := 0) (arr := (repL c.toNat zv.cells.toList).toArray) hM hf hw (by simpa using OC.of_cr (g := w.heap.size) hrep)
    have hbytes : (i.bytes : Int) * c ≤ 281474976710656 := by
      have h1 : (i.bytes : Int) * c ≤ 1024 * 1048576 := Int.mul_le_mul (by omega) (by omega) (by omega) (by omega)
      omega
    have hrun := run_make (P := P) w t e i zv (fm hu) hi hzv .i64 .i64 l c b1 b2 hbytes (by omega)
    have hcells : madeCells zv.cells (c.toNat * i.size) = (repL c.toNat zv.cells.toList).toArray := by
      have := mS zv.cells (by omega) c.toNat
      rw [hvs] at this
      rw [← this, madeCells, hvs]
    rw [hcells] at hrun
    exact ⟨_, _, .slice (some ⟨w.heap.size, 0 + 0, none⟩) l.toNat c.toNat, _, db hf.pl, by simpa using hrun, .slc ep, h1, h2⟩
  · cases hr
theorem y3 {H H' : Hp} {id : Nat} {t : TypeId} {x a : AV} {u : Value} (hM : MH P β H.get n L) (hf : Free β H n id) (hw : Cur F Γ L w) (hx : VR β x u) (hr : rngA T H id t x = some (a, H')) :
    Eo P F Γ β n H' a (Instr.range t u) w := by
  unfold rngA at hr
  split at hr
  · rename_i hu
    cases hr
    cases hx
    obtain ⟨k1, k2⟩ := lW (o := .miter none 0 [] 0) (x := .mapIter none 0 #[] 0) hM hf hw ⟨_, rfl, rfl⟩
    refine ⟨_, _, .pointer (some ⟨w.heap.size, 0 + 0, none⟩), _, db hf.pl, ?_, .ptr ep, k1, k2⟩
    simp [Instr.range, aA hu, newObj, Sem.run]
  · rename_i b hu
    split at hr
    · rename_i es c hb
      cases hr
      obtain ⟨row, hrow, g, arr, h1, rfl, h2⟩ := hM.at_ hb
      have hg : w.heap[g]? = some (.map arr c) := hw.at_ hrow (p := (g, .map arr c)) (by simp)
      cases hx with
      | map h4 =>
        rw [h1] at h4
        cases h4
        obtain ⟨k1, k2⟩ := lW (o := .miter (some b) c [] c) (x := .mapIter (some g) c #[] c) hM hf hw ⟨_, (g, 0, 0), rfl, db hf.pl _ _ h1, rfl⟩
        refine ⟨_, _, .pointer (some ⟨w.heap.size, 0 + 0, none⟩), _, db hf.pl, ?_, .ptr ep, k1, k2⟩
        simp [Instr.range, aA hu, Go.MapKept.run_getObj_map hg, newObj, Sem.run]
    · cases hr
  · rename_i s hu
    cases hr
    cases hx
    obtain ⟨k1, k2⟩ := lW (o := .siter s 0) (x := .stringIter s 0) hM hf hw ⟨_, rfl, rfl⟩
    refine ⟨_, _, .pointer (some ⟨w.heap.size, 0 + 0, none⟩), _, db hf.pl, ?_, .ptr ep, k1, k2⟩
    simp [Instr.range, aA hu, newObj, Sem.run]
  · cases hr
theorem ER.filter {p : Nat → Bool} : ∀ {es : List (AV × AV × Nat)} {l : List MapEntry}, ER β es l → ER β (es.filter fun e => p e.2.2) (l.filter fun e => p e.born)
  | [], [], _ => trivial
  | [], _ :: _, h => h.elim
  | _ :: _, [], h => h.elim
  | a :: es, e :: l, ⟨⟨h1, h2, h3⟩, h⟩ => by
    simp only [List.filter_cons, h3]
    cases p e.born with
    | true => exact ⟨⟨h1, h2, h3⟩, ER.filter h⟩
    | false => exact ER.filter h
theorem ER.all {p : Nat → Bool} : ∀ {es : List (AV × AV × Nat)} {l : List MapEntry}, ER β es l → (es.all fun e => p e.2.2) = l.all fun e => p e.born
  | [], [], _ => rfl
  | [], _ :: _, h => h.elim
  | _ :: _, [], h => h.elim
  | a :: es, e :: l, ⟨⟨h1, h2, h3⟩, h⟩ => by simp [h3, ER.all h]
theorem ER.empty : ∀ {es : List (AV × AV × Nat)} {l : List MapEntry}, ER β es l → es.isEmpty = l.isEmpty
  | [], [], _ => rfl
  | [], _ :: _, h => h.elim
  | _ :: _, [], h => h.elim
  | _ :: _, _ :: _, _ => rfl
theorem wV {H H' : Hp} {x a : AV} {u : Value} {ty : TypeId} (hM : MH P β H.get n L) (hw : Cur F Γ L w) (hx : VR β x u) (hr : wq H x = some (a, H')) : Eo P F Γ β n H' a (Instr.next u false ty) w := by
  unfold wq at hr
  split at hr
  · rename_i it
    split at hr
    · rename_i s sn l hb
      cases hr
      obtain ⟨row, hrow, g, h1, rfl⟩ := hM.at_ hb
      have hg : w.heap[g]? = some (.mapIter none s sn.toArray l) := hw.at_ hrow (p := (g, .mapIter none s sn.toArray l)) (by simp)
      cases hx with
      | ptr h4 =>
        rw [h1] at h4
        cases h4
        refine ⟨β, L, .tuple #[.bool false], w, Bt.le.refl _, ?_, .tup (.cons (.v _) .nil), hM, hw⟩
        simp [Instr.next, getObj, Sem.run, hg]
    · rename_i m since seen last hb
      split at hr
      · rename_i es c hm
        cases hgone : (!seen.isEmpty && !es.isEmpty && es.all (fun e => decide (last ≤ e.2.2))) with
        | true => rw [hgone] at hr; cases hr
        | false =>
          rw [hgone] at hr
          simp only [cond_false] at hr
          obtain ⟨row, hrow, g, q, h1, hq, rfl⟩ := hM.at_ hb
          obtain ⟨rowm, hrowm, gm, arr, hm1, rfl, hm2⟩ := hM.at_ hm
          rw [hm1] at hq
          cases hq
          have hg : w.heap[g]? = some (.mapIter (some gm) since seen.toArray last) := hw.at_ hrow (p := (g, .mapIter (some gm) since seen.toArray last)) (by simp)
          have hgm : w.heap[gm]? = some (.map arr c) := hw.at_ hrowm (p := (gm, .map arr c)) (by simp)
          have hgone' : (!seen.toArray.isEmpty && !arr.isEmpty && arr.all fun e => decide (e.born ≥ last)) = false := by
            have e1 := ER.all (p := fun b => decide (last ≤ b)) hm2
            have e2 := ER.empty hm2
            have e3 : arr.isEmpty = arr.toList.isEmpty := by simp
            have e4 : (arr.all fun e => decide (e.born ≥ last)) = arr.toList.all fun e => decide (last ≤ e.born) := by rw [← Array.all_toList]
            have e5 : seen.toArray.isEmpty = seen.isEmpty := by simp
            rw [e3, e4, e5, ← e1, ← e2]
            exact hgone
          have hfil := ER.filter (p := fun b => !seen.contains b) hm2
          have hleft : (arr.filter fun e => !seen.toArray.contains e.born) = (arr.toList.filter fun e => !seen.contains e.born).toArray := by
            apply Array.ext'
            simp
          cases hx with
          | ptr h4 =>
            rw [h1] at h4
            cases h4
            generalize hA : (es.filter fun e => !seen.contains e.2.2) = A at hr hfil
            generalize hB : (arr.toList.filter fun e => !seen.contains e.born) = B at hfil hleft
            split at hr
            · cases hr
              cases B with
              | cons _ _ => exact hfil.elim
              | nil =>
                refine ⟨β, L, .tuple #[.bool false], w, Bt.le.refl _, ?_, .tup (.cons (.v _) .nil), hM, hw⟩
                simp only [Instr.next, Sem.run_bind, getObj, Sem.run, hg, hgm, Result.andThen_ok, Nat.zero_add, hgone', hleft]
                simp [choose, Sem.run, Question.forced]
            · rename_i e
              cases hs : decide (e.2.2 < since) with
              | false => rw [hs] at hr; cases hr
              | true =>
                rw [hs] at hr
                simp only [cond_true] at hr
                cases hr
                have hs := of_decide_eq_true hs
                match B, hfil with
                | [b], ⟨⟨f1, f2, f3⟩, _⟩ =>
                  have hnge : ¬ since ≤ b.born := by omega
                  have hlt : b.born < since := by omega
                  obtain ⟨k1, k2⟩ := oo (o' := .miter (some m) since (seen ++ [e.2.2]) c) (x' := .mapIter (some gm) since (seen.toArray.push b.born) c) hM hw hb hrow (by
                    rw [h1]
                    exact ⟨g, (gm, 0, 0), rfl, hm1, by simp [f3]⟩)
                  refine ⟨β, _, .tuple #[.bool true, b.key, b.val], _, Bt.le.refl _, ?_, .tup (.cons (.v _) (.cons f1 (.cons f2 .nil))), k1, k2⟩
                  simp only [Instr.next, Sem.run_bind, getObj, Sem.run, hg, hgm, Result.andThen_ok, Nat.zero_add, hgone', hleft]
                  simp [choose, setObj, Sem.run, Question.forced, hlt, hnge, hg]
            · cases hr
      · cases hr
    · cases hr
  · cases hr
end
end Fw
end Go.Proofs.YtogmioecalmalaaGreat
namespace Go.Proofs.YtogmioecalmalaaGreat
namespace Fw
set_option linter.unusedVariables false
set_option linter.unusedSimpArgs false
set_option linter.unusedSectionVars false
open Go.RowKit Go.MapKept
section
variable {T : Tb} {P : Program} [TbOK T P] {F : Fm} {Γ : Gh} {L : List Rowb} {w : World} {β : Bt} {n : Nat} {ρA : Operand → AV} {ρ : Operand → Value} {h : Hf}

theorem lK (s : ByteArray) : CR β (s.data.toList.map fun b => .v (.int .u8 b.toNat)) (byteCells s) :=
  ⟨VRs.map (fun b => .v _) _, fun v hv => by
    unfold byteCells at hv
    obtain ⟨_, _, rfl⟩ := List.mem_map.1 hv
    rfl⟩
theorem rg (hL : HL P β h L) {t : TypeId} {sz k : Nat} {a : AV} {l : List AV} {x : Value} (hx : VR β a x) (hr : srcA T h t sz a = some (k, l)) : ∃ vs, CR β l vs ∧ vs.length = k * sz ∧ ∀ w, Cur F Γ L w → Src P sz t x k vs w := by
  have nilc : CR β [] [] := ⟨.nil, by simp⟩
  unfold srcA at hr
  split at hr
  · rename_i c hu
    cases hr
    cases hx
    exact ⟨[], nilc, by simp, fun w _ => Src.ofNil w (fm hu) c⟩
  · rename_i b z hu
    cases hr
    cases hx
    exact ⟨[], nilc, by simp, fun w _ => Src.ofSlice w (fm hu) _ 0 _ [] (by simp) (by simp) (by simp)⟩
  · rename_i s hu
    obtain ⟨h1, hr⟩ := aN hr
    cases hr
    have h1 := Nat.eq_of_beq_eq_true h1
    subst h1
    cases hx
    refine ⟨byteCells s, lK s, by rw [byteCells_length, gk, Nat.mul_one], fun w _ => ?_⟩
    rw [gk]
    exact Src.ofString w (fm hu) s
  · rename_i b o k' c hu
    split at hr
    · rename_i cs e' hb
      obtain ⟨l', hl, hr⟩ := ab hr
      cases hr
      obtain ⟨p, arr, fz, h1, h2, h3⟩ := hL.cells hb
      obtain ⟨vs, g1, g2, g3⟩ := h2.cut hl
      cases hx with
      | slc h4 =>
        rw [h1] at h4
        cases h4
        exact ⟨vs, g2, g1, fun w hw => Src.ofSlice w (fm hu) _ k c vs g1 (fun j u hj => by rw [aR, cell_of_row w _ _ arr e' fz (h3 w hw.lies)]; exact g3 j u hj) g2.one⟩
    · cases hr
  · rename_i b o k' z hu
    split at hr
    · rename_i cs e' hb
      obtain ⟨l', hl, hr⟩ := ab hr
      cases hr
      obtain ⟨p, arr, fz, h1, h2, h3⟩ := hL.cells hb
      obtain ⟨vs, g1, g2, g3⟩ := h2.cut hl
      cases hx with
      | slo h4 _ _ _ _ =>
        rw [h1] at h4
        cases h4
        exact ⟨vs, g2, g1, fun w hw => Src.ofSlice w (fm hu) _ k _ vs g1 (fun j u hj => by rw [aR, cell_of_row w _ _ arr e' fz (h3 w hw.lies)]; exact g3 j u hj) g2.one⟩
    · cases hr
  · cases hr
theorem nE (z : Array Value) (k : Nat) : (Builtin.zeroCells z k).size = k * z.size := by simp [Builtin.zeroCells]
/-- there is no room: a new block -/
theorem ol {H : Hp} {id : Nat} {st xt ty e : TypeId} {i : TypeInfo} {zv x : Value} {base : Option Addr} {sLen sCap k : Nat} {olds vs : List Value} {q p : List AV} (hM : MH P β H.get n L) (hf : Free β H n id) (hw : Cur F Γ L w)
    (hst : P.underlying st = some (.slice e)) (hi : P.info? e = some i) (hz : i.zero = some zv) (hzs : zv.cells.size = i.size) (hb : i.bytes < 1024) (hs : Src P i.size xt x k vs w) (hp0 : 0 < i.size)
    (hold : (Builtin.firstCells i.size sLen (.slice base sLen sCap)).run P w.drew = .ok olds.toArray w.drew) (hlo : olds.length = sLen * i.size) (hq : CR β q olds) (hp : CR β p vs) (hg : sCap < sLen + k) (b1 : sLen < 1048576) (b2 : k < 1048576) :
    Eo P F Γ β n (H.set id (some (.cells (q ++ p) e))) (.slo id 0 (sLen + k) i.size) (Builtin.append_ #[st, xt] ty #[.slice base sLen sCap, x]) w := by
  have hfit : Builtin.nextslicecap (sLen + k) sCap * i.bytes ≤ 281474976710656 := growslice_fits hg (by
    have : (sLen + k) * i.bytes ≤ 2097152 * 1024 := Nat.mul_le_mul (by omega) (by omega)
    omega)
  have hrun := run_append_grow_src (P := P) (ty := ty) w st xt e i zv hst hi hz base sLen sCap olds hold x k vs hs hg (by omega) hfit
  have hge := grownCap_ge w (sLen + k) sCap e
  have hle := grownCap_le_maxLen w (sLen + k) sCap e (by simp [maxLen]; omega)
  generalize grownCap w (sLen + k) sCap e = c at hrun hge hle
  have hsz : ((olds ++ vs).toArray ++ Builtin.zeroCells zv.cells (c - (sLen + k))).size = c * i.size := by
    rw [Array.size_append, nE, hzs]
    simp only [List.size_toArray, List.length_append, hlo, hs.newsLen]
    rw [← Nat.add_mul, ← Nat.add_mul]
    congr 1; omega
  have hcr := hq.app hp
  have hoc : OC β ((w.drew).heap.size, 0, ((olds ++ vs).toArray ++ Builtin.zeroCells zv.cells (c - (sLen + k))).size) (q ++ p) ((olds ++ vs).toArray ++ Builtin.zeroCells zv.cells (c - (sLen + k))) (0, 0) := by
    refine ⟨rfl, fun j _ => nfz0 j, fun j a hj => ?_⟩
    obtain ⟨v, h1, h2⟩ := hcr.rel.get hj
    refine ⟨v, ?_, h2, hcr.one v (List.mem_of_getElem? h1)⟩
    have hjl := (List.getElem?_eq_some_iff.1 h1).1
    simp only [Nat.zero_add]
    rw [Array.getElem?_append_left (by simpa using hjl)]
    simpa using h1
  have hwd : Cur F Γ L w.drew := hw.drawn 1
  obtain ⟨k1, k2⟩ := kw (e := e) hM hf hwd hoc
  refine ⟨_, _, .slice (some ⟨w.heap.size, 0 + 0, none⟩) (sLen + k) c, _, db hf.pl, by simpa using hrun, .slo (m := ((olds ++ vs).toArray ++ Builtin.zeroCells zv.cells (c - (sLen + k))).size) ?_ hge ?_ hle hp0, k1, k2⟩
  · exact ep
  · rw [hsz]; omega
/-- there is room: the block goes on by another number -/
theorem tM {H : Hp} {id b : Nat} {st xt ty e e' : TypeId} {i : TypeInfo} {x : Value} {g kk m o sLen c k : Nat} {olds vs : List Value} {cs q p : List AV} (hM : MH P β H.get n L) (hf : Free β H n id) (hw : Cur F Γ L w)
    (hst : P.underlying st = some (.slice e)) (hi : P.info? e = some i) (hs : Src P i.size xt x k vs w) (hb : H.get b = some (.cells cs e')) (hpl : β b = some (g, kk, m))
    (hold : ∀ (arr : Array Value) (fz : Nat × Nat), w.heap[g]? = some (.cells arr e' fz) → OC β (g, kk, m) cs arr fz → ∀ j v, olds[j]? = some v → arr[o + j]? = some v) (hlo : olds.length = sLen * i.size) (hq : CR β q olds) (hp : CR β p vs)
    (hroom : sLen + k ≤ c) (hc : o + c * i.size = m) (hm : c ≤ maxLen) (hp0 : 0 < i.size) :
    Eo P F Γ β n ((H.set b none).set id (some (.cells (q ++ p) e'))) (.slo id 0 (sLen + k) i.size) (Builtin.append_ #[st, xt] ty #[.slice (some ⟨g, o, none⟩) sLen c, x]) w := by
  obtain ⟨row, hrow, pl, arr, fz, h1, rfl, h2⟩ := hM.at_ hb
  rw [hpl] at h1
  cases h1
  have hg : w.heap[g]? = some (.cells arr e' fz) := hw.at_ hrow (p := (g, .cells arr e' fz)) (by simp)
  have hasz : arr.size = m := h2.size
  have hmul : (sLen + k) * i.size ≤ c * i.size := Nat.mul_le_mul_right _ hroom
  rw [Nat.add_mul] at hmul
  have hvl := hs.newsLen
  have hfit : o + sLen * i.size + vs.length ≤ arr.size := by omega
  have hrun := run_append_room_src (P := P) (ty := ty) w st xt e i hst hi g o sLen c x k vs hs hroom
    (fun j hj => by rw [cell_of_row w g _ arr e' fz hg, Array.getElem?_eq_getElem (by omega)]; rfl) (fun j hj => lh hg (h2.free _ (by omega)))
  obtain ⟨g1, g2⟩ := j6 g e' fz vs (o + sLen * i.size) arr w hg hfit
  have hbn := hM.lt hb
  have hne : b ≠ id := fun e => by rw [e, hf.no] at hb; cases hb
  have hcr := hq.app hp
  have hset : Cur F Γ (L.set b [(g, .cells (setL arr.toList (o + sLen * i.size) vs).toArray e' fz)]) (w.setCells g (o + sLen * i.size) vs) :=
    hw.set hrow (g2.mono fun q hq => ⟨(g, .cells arr e' fz), by simp, hq.symm⟩) (fun p hp => by rw [List.mem_singleton.1 hp]; exact g1) (fun p hp => .inl ⟨(g, .cells arr e' fz), by simp, by rw [List.mem_singleton.1 hp]⟩) (by simp)
  have hmove := hset.move (by rw [hM.len]; exact hbn) (hM.free hf) hne
  have hk := hM.kill hbn
  have hf' : Free β (H.set b none) n id := ⟨hf.lt, hf.pl, by rw [Tr.get_set, if_neg (Ne.symm hne)]; exact hf.no⟩
  refine ⟨bup β id (g, o, m), _, _, _, db hf.pl, hrun, ?_, hk.setNew hf'.lt hf'.pl ?_, hmove⟩
  · have : VR (bup β id (g, o, m)) (.slo id 0 (sLen + k) i.size) (.slice (some ⟨g, o + 0, none⟩) (sLen + k) c) := .slo ep hroom (by omega) hm hp0
    simpa using this
  · have hlen : (setL arr.toList (o + sLen * i.size) vs).length = arr.size := by simp [setL]; omega
    refine ⟨_, _, fz, rfl, rfl, by simp [hlen, hasz], fun j hj => h2.free j (by simpa [hlen] using hj), fun j a hj => ?_⟩
    obtain ⟨v, f1, f2⟩ := hcr.rel.get hj
    refine ⟨v, ?_, f2.mono (db hf.pl), hcr.one v (List.mem_of_getElem? f1)⟩
    simp only [List.getElem?_toArray]
    rw [iP (by simpa using hfit)]
    by_cases hjo : j < olds.length
    · rw [if_neg (by omega)]
      rw [List.getElem?_append_left hjo] at f1
      rw [Array.getElem?_toList]
      exact hold arr fz hg h2 j v f1
    · rw [List.getElem?_append_right (by omega)] at f1
      have := (List.getElem?_eq_some_iff.1 f1).1
      rw [if_pos (by omega), ← f1]
      congr 1; omega
theorem pj {st xt ty e : TypeId} {i : TypeInfo} {x : Value} {A : Option Addr} {sLen c : Nat} (hst : P.underlying st = some (.slice e)) (hi : P.info? e = some i) (hs : Src P i.size xt x 0 [] w) (hroom : sLen ≤ c) :
    (Builtin.append_ #[st, xt] ty #[.slice A sLen c, x]).run P w = .ok (.slice A sLen c) w := by
  have hc := hs.cells
  cases A <;> rcases hs.kind with ⟨e', hk⟩ | hk <;> simp [Builtin.append_, run_underlying hst, run_underlying hk, sizeOf, typeInfo, hi, hs.len, hroom, hc, storeCells]
theorem yn {H H' : Hp} {id : Nat} {st xt ty : TypeId} {s x a : AV} {sv xv : Value} (hM : MH P β H.get n L) (hf : Free β H n id) (hw : Cur F Γ L w) (hsv : VR β s sv) (hxv : VR β x xv) (hr : appA T H id st xt s x = some (a, H')) :
    Eo P F Γ β n H' a (Builtin.append_ #[st, xt] ty #[sv, xv]) w := by
  have stay : ∀ {s : AV} {sv : Value}, VR β s sv → (Builtin.append_ #[st, xt] ty #[sv, xv]).run P w = .ok sv w → Eo P F Γ β n H s (Builtin.append_ #[st, xt] ty #[sv, xv]) w := fun hv hrun => ⟨β, L, _, w, Bt.le.refl _, hrun, hv, hM, hw⟩
  unfold appA at hr
  split at hr
  · rename_i e hu
    obtain ⟨i, hi, hr1⟩ := ab hr
    have hi := k8 (P := P) hi
    have hu0 := hu
    have hu := fm (P := P) hu
    clear hr
    obtain ⟨z, hz, hr2⟩ := ab hr1
    clear hr1
    obtain ⟨⟨k, p⟩, hsrc, hr3⟩ := ab hr2
    clear hr2
    obtain ⟨hbk, hr⟩ := aN hr3
    clear hr3
    have b1 : i.bytes < 1024 := by simpa [Nat.blt_eq] using av hbk
    have b2 : k < 1048576 := by simpa [Nat.blt_eq] using ap hbk
    obtain ⟨i', zv, hi', hzv, hzc, hzs, hzl, hpos⟩ := qC (β := β) hz
    rw [hi] at hi'
    cases hi'
    obtain ⟨vs, hp, hvl, hS⟩ := rg (F := F) (Γ := Γ) hM.hl hxv hsrc
    have hS := hS w hw
    rw [hzl] at hS hvl
    have hp0 : 0 < i.size := by omega
    have hnil : k = 0 → vs = [] := fun e => List.length_eq_zero_iff.1 (by rw [hvl, e, Nat.zero_mul])
    have hkpos : Nat.beq k 0 = false → 0 < k := fun e => Nat.pos_of_ne_zero fun h => by rw [h] at e; cases e
    split at hr
    · -- nil
      cases hk0 : Nat.beq k 0 with
      | true =>
        rw [hk0] at hr
        cases hr
        have := Nat.eq_of_beq_eq_true hk0
        subst this
        rw [hnil rfl] at hS
        exact stay hsv (by cases hsv; exact pj hu hi hS (Nat.le_refl _))
      | false =>
        rw [hk0] at hr
        cases hr
        cases hsv
        have := ol (ty := ty) hM hf hw hu hi hzv hzs b1 hS hp0 (olds := []) (q := []) (base := none) (sLen := 0) (sCap := 0) (by simpa using run_firstCells_none w.drew i.size 0 0 0) (by simp) ⟨.nil, by simp⟩ hp (by have := hkpos hk0; omega) (by omega) b2
        simp only [Nat.zero_add, List.nil_append] at this
        rw [hzl]; exact this
    · -- empty
      rename_i b o1 n1 y
      cases hk0 : Nat.beq k 0 with
      | true =>
        rw [hk0] at hr
        cases hr
        have := Nat.eq_of_beq_eq_true hk0
        subst this
        rw [hnil rfl] at hS
        exact stay hsv (by cases hsv; exact pj hu hi hS (Nat.zero_le _))
      | false =>
        rw [hk0] at hr
        simp only [cond_false] at hr
        split at hr
        · rename_i cs e' hb
          obtain ⟨hy, hr⟩ := aN hr
          cases hr
          have h1 := Nat.eq_of_beq_eq_true (av hy)
          have h2 := Nat.eq_of_beq_eq_true (ap hy)
          subst h2
          cases hsv with
          | @es _ _ _ _ c g kk m hpl hc hm hzp =>
            rw [h1, hzl] at hc ⊢
            obtain ⟨o, ho⟩ : ∃ o, o = if c = 0 then kk + o1 else kk + o1 + n1 * i.size := ⟨_, rfl⟩
            rw [← ho]
            by_cases hroom : k ≤ c
            · have := tM (ty := ty) (id := id) (o := o) (sLen := 0) (c := c) (olds := []) (q := []) hM hf hw hu hi hS hb hpl (fun _ _ _ _ j v hj => by simp at hj) (by simp) ⟨.nil, by simp⟩ hp (by omega) (by have := hkpos hk0; rw [if_neg (by omega)] at ho; rw [Nat.add_mul] at hc; omega) hm hp0
              simpa only [Nat.zero_add, List.nil_append] using this
            · have hbn := hM.lt hb
              have hne : b ≠ id := fun e => by rw [e, hf.no] at hb; cases hb
              have := ol (ty := ty) (id := id) (hM.kill hbn) ⟨hf.lt, hf.pl, by rw [Tr.get_set, if_neg (Ne.symm hne)]; exact hf.no⟩ (hw.kill b) hu hi hzv hzs b1 hS hp0 (olds := []) (q := []) (base := some ⟨g, o, none⟩) (sLen := 0) (sCap := c) (by simpa using run_firstCells_some (P := P) w.drew i.size 0 ⟨g, o, none⟩ 0 c [] (by simp) (by simp)) (by simp) ⟨.nil, by simp⟩ hp (by omega) (by omega) b2
              simpa only [Nat.zero_add, List.nil_append] using this
        · cases hr
    · -- known capacity
      rename_i b o l c
      cases hlc : Nat.ble (l + k) c with
      | true =>
        rw [hlc] at hr
        simp only [cond_true] at hr
        have hroom := Nat.le_of_ble_eq_true hlc
        split at hr
        · rename_i cs e' hb
          obtain ⟨cs', hwr, hr⟩ := ab hr
          cases hr
          cases hsv with
          | @slc _ _ _ _ g kk m hpl =>
            rw [hzl] at hwr
            obtain ⟨_, row, h2, h3⟩ := rJ (P := P) hM hw hb hpl hwr hp
            obtain ⟨row', hrow, pl, arr, fz, h1', rfl, hoc⟩ := hM.at_ hb
            rw [hpl] at h1'
            cases h1'
            have hg : w.heap[g]? = some (.cells arr e' fz) := hw.at_ hrow (p := (g, .cells arr e' fz)) (by simp)
            obtain ⟨hlen, hfit⟩ := ug hwr
            have hroomc : ∀ j, j < vs.length → kk + (o + l * i.size) + j < arr.size := by
              intro j hj
              have hpl2 : p.length = vs.length := hp.rel.len
              have hpne : p ≠ [] := fun e => by rw [e] at hpl2; simp at hpl2; omega
              have := hfit hpne
              obtain ⟨v, hv, _⟩ := hoc.get (o + l * i.size + j) _ (List.getElem?_eq_getElem (by omega))
              have := (Array.getElem?_eq_some_iff.1 hv).1
              simp only at this
              omega
            have hrun := run_append_room_src (P := P) (ty := ty) w st xt e i hu hi g (kk + o) l c xv k vs hS hroom
              (fun j hj => by rw [cell_of_row w g _ arr e' fz hg, Array.getElem?_eq_getElem (by have := hroomc j hj; omega)]; rfl) (fun j hj => lh hg (hoc.free _ (by have := hroomc j hj; omega)))
            rw [Nat.add_assoc] at hrun
            exact ⟨β, _, _, _, Bt.le.refl _, hrun, .slc hpl, h2, h3⟩
        · cases hr
      | false =>
        rw [hlc] at hr
        simp only [cond_false] at hr
        obtain ⟨hl1, hr⟩ := aN hr
        obtain ⟨⟨k', q⟩, hq, hr⟩ := ab hr
        cases hr
        have hl1 : l < 1048576 := by simpa [Nat.blt_eq] using hl1
        obtain ⟨olds, hqc, hol, hSo⟩ := rg (F := F) (Γ := Γ) hM.hl hsv hq
        have hk' : k' = l := by
          unfold srcA at hq
          rw [hu0] at hq
          simp only at hq
          split at hq
          · obtain ⟨_, _, hq⟩ := ab hq; cases hq; rfl
          · cases hq
        subst hk'
        have hg : c < k' + k := by
          rcases Nat.lt_or_ge c (k' + k) with h | h
          · exact h
          · rw [Nat.ble_eq_true_of_le h] at hlc; cases hlc
        cases hsv with
        | slc hpl =>
          rw [hzl] at hol hSo ⊢
          exact ol hM hf hw hu hi hzv hzs b1 hS hp0 (hSo w hw).cellsD hol hqc hp hg hl1 b2
    · -- unknown capacity
      rename_i b o l y
      cases hk0 : Nat.beq k 0 with
      | true =>
        rw [hk0] at hr
        cases hr
        have := Nat.eq_of_beq_eq_true hk0
        subst this
        rw [hnil rfl] at hS
        exact stay hsv (by cases hsv with | slo _ hl _ _ _ => exact pj hu hi hS hl)
      | false =>
        rw [hk0] at hr
        simp only [cond_false] at hr
        split at hr
        · rename_i cs e' hb
          obtain ⟨hy, hr⟩ := aN hr
          obtain ⟨⟨k', q⟩, hq, hr⟩ := ab hr
          cases hr
          have h1 := Nat.eq_of_beq_eq_true (av (av hy))
          have h2 := Nat.eq_of_beq_eq_true (ap (av hy))
          have hl1 : l < 1048576 := by simpa [Nat.blt_eq] using ap hy
          subst h2
          obtain ⟨olds, hqc, hol, hSo⟩ := rg (F := F) (Γ := Γ) hM.hl hsv hq
          have hq0 := hq
          have hk' : k' = l := by
            unfold srcA at hq
            rw [hu0] at hq
            simp only at hq
            split at hq
            · obtain ⟨_, _, hq⟩ := ab hq; cases hq; rfl
            · cases hq
          subst hk'
          have hcut : cut cs o (k' * z.length) = some q := by
            unfold srcA at hq0
            rw [hu0] at hq0
            simp only [hb] at hq0
            obtain ⟨l', hl', hq0⟩ := ab hq0
            cases hq0
            exact hl'
          cases hsv with
          | @slo _ _ _ _ c g kk m hpl hlc hc hm hzp =>
            rw [h1, hzl] at hc ⊢
            rw [hzl] at hol hSo hcut
            by_cases hroom : k' + k ≤ c
            · refine tM (ty := ty) (id := id) (o := kk + o) (sLen := k') (c := c) (olds := olds) hM hf hw hu hi hS hb hpl (fun arr fz hg hoc j v hj => ?_) hol hqc hp hroom (by omega) hm hp0
              have hcells := (hSo w hw).cells
              have hjl := (List.getElem?_eq_some_iff.1 hj).1
              obtain ⟨vs', g1, g2, g3⟩ := hoc.cut hcut
              have hld := run_firstCells_some (P := P) w i.size k' ⟨g, kk + o, none⟩ k' c vs' (by rw [g1]) (fun j v hj => by rw [aR, cell_of_row w _ _ arr e fz hg]; exact g3 j v hj)
              rw [hld] at hcells
              have : vs' = olds := by
                have := congrArg (fun r : Result (Array Value) => match r with | .ok a _ => a.toList | _ => []) hcells
                simpa using this
              subst this
              exact g3 j v hj
            · have hbn := hM.lt hb
              have hne : b ≠ id := fun e => by rw [e, hf.no] at hb; cases hb
              exact ol (ty := ty) (id := id) (hM.kill hbn) ⟨hf.lt, hf.pl, by rw [Tr.get_set, if_neg (Ne.symm hne)]; exact hf.no⟩ (hw.kill b) hu hi hzv hzs b1 hS hp0 (hSo w hw).cellsD hol hqc hp (by omega) hl1 b2
        · cases hr
    · cases hr
  · cases hr
theorem Cur.newV {w' : World} (h : Cur F Γ L w) {o : Obj} (hfr : Fr no w w') (hn : w'.heap[w.heap.size]? = some o) : Cur F Γ ([(w.heap.size, o)] :: L) w' := by
  have h1 := h.call hfr
  refine ⟨h1.fr, h1.sat, h1.le, h1.gnew, ?_, ?_, ?_, ?_⟩
  · intro r hr p hp
    rcases List.mem_cons.1 hr with rfl | hr
    · rw [List.mem_singleton.1 hp]; exact hn
    · exact h1.loc r hr p hp
  · intro r hr p hp
    rcases List.mem_cons.1 hr with rfl | hr
    · rw [List.mem_singleton.1 hp]; exact .inr h.fr.size
    · exact h.sep r hr p hp
  · intro r hr p hp
    rcases List.mem_cons.1 hr with rfl | hr
    · rw [List.mem_singleton.1 hp]
      cases hg : Γ w.heap.size with
      | none => rfl
      | some o' => have := bP (h.sat _ _ hg); omega
    · exact h.out r hr p hp
  · simp only [List.flatten_cons, List.map_cons, List.cons_append, List.nil_append]
    refine List.nodup_cons.2 ⟨fun hm => ?_, h.nodup⟩
    obtain ⟨p, hp, he⟩ := List.mem_map.1 hm
    obtain ⟨r, hr, hpr⟩ := List.mem_flatten.1 hp
    have := h.lt hr hpr
    omega
theorem xY {H H' : Hp} {id : Nat} {src dst : TypeId} {x a : AV} {u : Value} (hM : MH P β H.get n L) (hf : Free β H n id) (hw : Cur F Γ L w) (hx : VR β x u) (hr : cvtA T H id src dst x = some (a, H')) : Eo P F Γ β n H' a (convert src dst u) w := by
  unfold cvtA at hr
  split at hr
  · rename_i e s hs hd
    split at hr
    · rename_i he
      obtain ⟨h1, hr⟩ := aN hr
      cases hr
      have hxv := hx.vinv
      subst hxv
      have hlen : s.size < 1048576 := by rw [← gk]; simpa [Nat.blt_eq] using h1
      have hge := grownCap_ge w s.size 0 e
      have hle := grownCap_le_maxLen w s.size 0 e (by simp [maxLen]; omega)
      have hrun := Lib.run_convert_string_bytes (P := P) w src dst e s (fm hs) (fm hd) (fm he)
      have hfr : Fr no w (Lib.bytesWorld w e s) := ⟨rfl, rfl, rfl, fun _ => (show w.drawn ≤ w.drawn + 1 by omega), by rw [Lib.bytesWorld_size]; omega, fun k hk _ => Lib.bytesWorld_at_old w e s k hk⟩
      have hnew := hw.newV hfr (Lib.bytesWorld_at_new w e s)
      have hsz : (Lib.bytesCells w e s).size = grownCap w s.size 0 e := by
        have : s.data.size = s.size := rfl
        simp [Lib.bytesCells, this]; omega
      have hp := iB [(w.heap.size, Obj.cells (Lib.bytesCells w e s) e ((Lib.bytesCells w e s).size, (Lib.bytesCells w e s).size + 1))] (hM.free hf)
      have hc : Cur F Γ (L.set id [(w.heap.size, .cells (Lib.bytesCells w e s) e ((Lib.bytesCells w e s).size, (Lib.bytesCells w e s).size + 1))]) (Lib.bytesWorld w e s) :=
        hnew.relist (fun p hp' => by simpa using hp.subset hp') ((hp.map _).nodup_iff.2 (by simpa using hnew.nodup))
      refine ⟨bup β id (w.heap.size, 0, grownCap w s.size 0 e), _, _, _, db hf.pl, hrun, ?_, hM.setNew hf.lt hf.pl ?_, hc⟩
      · rw [gk]
        exact .slo (g := w.heap.size) (k := 0) ep hge (by omega) hle (by omega)
      · refine ⟨_, _, _, rfl, rfl, hsz, fun j hj => fun h => by simp only at h; omega, fun j a hj => ?_⟩
        have hb := (lK (β := bup β id (w.heap.size, 0, grownCap w s.size 0 e)) s)
        obtain ⟨v, f1, f2⟩ := hb.rel.get hj
        refine ⟨v, ?_, f2, hb.one v (List.mem_of_getElem? f1)⟩
        have hjl := (List.getElem?_eq_some_iff.1 f1).1
        rw [byteCells_length] at hjl
        have hds : s.data.size = s.size := rfl
        simp only [Nat.zero_add, Lib.bytesCells]
        rw [Array.getElem?_append_left (by simpa [hds] using hjl)]
        rw [← f1]
        simp [byteCells]
    · cases hr
  · cases hr
theorem tI {β : Bt} {b : Nat} : ∀ {es : List (AV × AV × Nat)} {l : List MapEntry}, ER β es l → ∀ {e : AV × AV × Nat}, es.find? (fun e => Nat.beq e.2.2 b) = some e → ∃ x, l.find? (fun e => e.born == b) = some x ∧ VR β e.1 x.key ∧ VR β e.2.1 x.val
  | [], [], _, _, hf => by simp at hf
  | [], _ :: _, h, _, _ => h.elim
  | _ :: _, [], h, _, _ => h.elim
  | a :: es, y :: l, ⟨⟨h1, h2, h3⟩, h4⟩, e, hf => by
    rw [List.find?_cons] at hf ⊢
    by_cases hb : a.2.2 = b
    · rw [show Nat.beq a.2.2 b = true from Tr.beq_iff.2 hb] at hf
      cases hf
      refine ⟨y, ?_, h1, h2⟩
      rw [show (y.born == b) = true by rw [← h3, hb]; simp]
    · rw [Tr.beq_ff hb] at hf
      obtain ⟨x, g1, g2⟩ := tI h4 hf
      refine ⟨x, ?_, g2⟩
      rw [show (y.born == b) = false by rw [← h3]; simpa using hb]
      exact g1
theorem vu {H : Hp} {x a : AV} {u : Value} (hM : MH P β H.get n L) (hw : Cur F Γ L w) (hx : VR β x u) (hr : qO H x = some a) : Eo P F Γ β n H a (Instr.entry u) w := by
  unfold qO at hr
  split at hr
  · rename_i it
    split at hr
    · rename_i m s seen last hb
      split at hr
      · rename_i es c b hm hl
        obtain ⟨hc, hr1⟩ := aN hr
        clear hr
        have hc := Nat.eq_of_beq_eq_true hc
        subst hc
        split at hr1
        · rename_i e hfd
          cases hr1
          obtain ⟨row, hrow, g, q, h1, hq, rfl⟩ := hM.at_ hb
          obtain ⟨rowm, hrowm, gm, arr, hm1, rfl, hm2⟩ := hM.at_ hm
          rw [hm1] at hq
          cases hq
          have hg : w.heap[g]? = some (.mapIter (some gm) s seen.toArray c) := hw.at_ hrow (p := (g, .mapIter (some gm) s seen.toArray c)) (by simp)
          have hgm : w.heap[gm]? = some (.map arr c) := hw.at_ hrowm (p := (gm, .map arr c)) (by simp)
          obtain ⟨y, f1, f2, f3⟩ := tI hm2 hfd
          cases hx with
          | ptr h4 =>
            rw [h1] at h4
            cases h4
            refine ⟨β, L, .tuple #[y.key, y.val], w, Bt.le.refl _, ?_, .tup (.cons f2 (.cons f3 .nil)), hM, hw⟩
            have hl' : seen.toArray.back? = some b := by simpa using hl
            have hfa : arr.find? (fun e => e.born == b) = some y := by rw [← Array.find?_toList]; exact f1
            simp [Instr.entry, getObj, Sem.run, hg, hgm, hl', hfa]
        · cases hr1
      · cases hr
    · cases hr
  · cases hr
end
end Fw
end Go.Proofs.YtogmioecalmalaaGreat
namespace Go.Proofs.YtogmioecalmalaaGreat
namespace Fw
set_option linter.unusedVariables false
set_option linter.unusedSimpArgs false
set_option linter.unusedSectionVars false
open Go.RowKit Go.MapKept
noncomputable section
variable {T : Tb} {P : Program} [TbOK T P] {F : Fm} {Γ : Gh} {L : List Rowb} {w : World} {β : Bt} {n : Nat} {ρ : Operand → Value}
/-- an operation in a frame: it yields a value, or nothing (then the slot holds undef) -/
def En (P : Program) (F : Fm) (Γ : Gh) (β : Bt) (n : Nat) (H' : Hp) (a : AV) (s : Sem Next) (w : World) : Prop :=
  ∃ β' L' v w', β.le β' ∧ (s.run P w = .ok (.value v) w' ∨ s.run P w = .ok .skip w' ∧ v = undef) ∧ VR β' a v ∧ MH P β' H'.get n L' ∧ Cur F Γ L' w'
theorem Eo.en {H' : Hp} {a : AV} {s : Sem Value} {t : Sem Next} (h : Eo P F Γ β n H' a s w) (ht : t = (do pure (.value (← s)))) : En P F Γ β n H' a t w := by
  obtain ⟨β', L', v, w', h1, h2, h3, h4, h5⟩ := h
  exact ⟨β', L', v, w', h1, .inl (by rw [ht]; simp [h2]), h3, h4, h5⟩
theorem Eu.en {H' : Hp} {a : AV} {s : Sem Unit} {t : Sem Next} (h : Eu P F Γ β n H' s w ∧ a = jH) (ht : t = (do s; pure .skip)) : En P F Γ β n H' a t w := by
  obtain ⟨⟨L', w', h2, h4, h5⟩, rfl⟩ := h
  exact ⟨β, L', undef, w', Bt.le.refl _, .inr ⟨by rw [ht]; simp [h2], rfl⟩, .v _, h4, h5⟩
theorem yZ {E : Tr AV} {H H' : Hp} {id : Nat} (hM : MH P β H.get n L) (hf : Free β H n id) (hw : Cur F Γ L w) (hρ : ∀ x, VR β (rho x E) (ρ x)) {o : Oper} {a : AV} (hq : opE o.op T H id E = some (a, H')) : En P F Γ β n H' a (execOp ρ o) w := by
  obtain ⟨dst, op, ty, pos, after, guard⟩ := o
  simp only at hq
  have hρ' : ∀ x, VR β (rhoE E x) (ρ x) := hρ
  cases op with
  | alloc t =>
    have hq' : pi T H id t (zrT T t) = some (a, H') := hq
    obtain ⟨z0, hz0, _⟩ := ab (show bd (zrT T t) _ = some (a, H') from hq')
    obtain ⟨x, i, h1, h2, h3, h4, h5⟩ := li (T := T) (P := P) hz0
    have := pT (T := T) (x := x) hM hf hw (fun b hb => by rw [hz0] at hb; cases hb; exact h3) hq'
    refine Eo.en (s := Instr.alloc t true (.tuple #[])) ?_ rfl
    obtain ⟨β', L', v, w', g1, g2, g3, g4, g5⟩ := this
    exact ⟨β', L', v, w', g1, (by simp [Instr.alloc, h5] at g2 ⊢; exact g2), g3, g4, g5⟩
  | box t x => exact (pT (T := T) (x := ρ x) hM hf hw (fun b hb => by cases hb; exact hρ x) hq).en rfl
  | buildSlice t k ps => exact (y5 hM hf hw hρ' hq).en rfl
  | insert t m k x => exact Eu.en (tZ hM hw (hρ m) (hρ k) (hρ x) hq) rfl
  | mapUpdate t m k x => exact Eu.en (tZ hM hw (hρ m) (hρ k) (hρ x) hq) rfl
  | store t x y => exact Eu.en (uT hM hw (hρ x) (hρ y) hq) rfl
  | convert src dst x => exact (xY hM hf hw (hρ x) hq).en rfl
  | makeMap t r =>
    cases r with
    | none => exact (tR (r := none) (rv := none) hM hf hw (fun _ h => by cases h) (fun _ => rfl) hq).en rfl
    | some x => exact (tR (r := some (rho x E)) (rv := some (ρ x)) hM hf hw (fun _ h => by cases h; exact ⟨_, rfl, hρ x⟩) (fun h => by cases h) hq).en rfl
  | makeSlice t x y => exact (xl hM hf hw (hρ x) (hρ y) hq).en rfl
  | range t x => exact (y3 hM hf hw (hρ x) hq).en rfl
  | next x s =>
    cases s with
    | false => exact (wV hM hw (hρ x) hq).en rfl
    | true => cases hq
  | entry x =>
    obtain ⟨y, hy, hq⟩ := ab (show bd (qO H (rho x E)) _ = some (a, H') from hq)
    cases hq
    exact (vu hM hw (hρ x) hy).en rfl
  | call c =>
    obtain ⟨callee, args, argTypes⟩ := c
    cases callee with
    | value f => cases hq
    | invoke r m => cases hq
    | builtin b =>
      change opEb b args argTypes T H id E = some (a, H') at hq
      unfold opEb at hq
      split at hq
      · split at hq
        · rename_i s x st xt ha ht
          have ea : args = #[s, x] := by rw [← Array.toArray_toList (xs := args), ha]
          have et : argTypes = #[st, xt] := by rw [← Array.toArray_toList (xs := argTypes), ht]
          subst ea et
          exact (yn (ty := ty) hM hf hw (hρ s) (hρ x) hq).en (by simp [execOp, resolve, invoke, builtin])
        · cases hq
      · split at hq
        · rename_i m k mt kt ha ht
          have ea : args = #[m, k] := by rw [← Array.toArray_toList (xs := args), ha]
          have et : argTypes = #[mt, kt] := by rw [← Array.toArray_toList (xs := argTypes), ht]
          subst ea et
          exact (xn hM hw (hρ m) (hρ k) #[mt, kt] rfl ty hq).en (by simp [execOp, resolve, invoke, builtin])
        · cases hq
      · cases hq
  | _ => cases hq
end
end Fw
end Go.Proofs.YtogmioecalmalaaGreat
namespace Go.Proofs.YtogmioecalmalaaGreat
namespace Fw
set_option linter.unusedVariables false
set_option linter.unusedSimpArgs false
set_option linter.unusedSectionVars false
open Go.RowKit Go.MapKept
noncomputable section
theorem uM {x : Option (AV × Option Nat)} {H H' : Hp} {n n' : Nat} {v : AV} (h : qRes x H n = some (v, H', n')) : (∃ rd, x = some (v, rd)) ∧ H' = H ∧ n' = n := by
  cases x with
  | none => cases h
  | some p => obtain ⟨a, rd⟩ := p; cases h; exact ⟨⟨rd, rfl⟩, rfl, rfl⟩
theorem pY {x : Option (AV × Hp)} {H' : Hp} {m n' : Nat} {v : AV} (h : eRes x m = some (v, H', n')) : x = some (v, H') ∧ n' = m := by
  cases x with
  | none => cases h
  | some p => obtain ⟨a, rd⟩ := p; cases h; exact ⟨rfl, rfl⟩
theorem lO {x y : Option (AV × Hp × Nat)} {r : AV × Hp × Nat} (h : orR x y = some r) : x = some r ∨ y = some r := by
  cases x with
  | none => exact .inr h
  | some p => exact .inl h
/-- the three kinds of an operation -/
def OpK (op : Op) (R : Rn) (H : Hp) (n id m : Nat) (E : Tr AV) (v : AV) (H' : Hp) (n' : Nat) : Prop :=
  (∃ rd, opQ op R.P H.get E = some (v, rd) ∧ H' = H ∧ n' = n) ∨ (opE op R.P H id E = some (v, H') ∧ n' = m) ∨ ∃ c, op = .call c ∧ vN c R H n id m E = some (v, H', n')
theorem uU {op : Op} {R : Rn} {H H' : Hp} {n id m n' : Nat} {E : Tr AV} {v : AV} (h : opA op R H n id m E = some (v, H', n')) : OpK op R H n id m E v H' n' := by
  have q : ∀ {op : Op}, qRes (opQ op R.P H.get E) H n = some (v, H', n') → OpK op R H n id m E v H' n' := fun h => let ⟨⟨rd, h1⟩, h2, h3⟩ := uM h; .inl ⟨rd, h1, h2, h3⟩
  have e : ∀ {op : Op}, eRes (opE op R.P H id E) m = some (v, H', n') → OpK op R H n id m E v H' n' := fun h => .inr (.inl (pY h))
  cases op with
  | convert a b c => exact (lO h).elim q e
  | call c => exact (lO h).elim q fun h => (lO h).elim e fun h => .inr (.inr ⟨c, rfl, h⟩)
  | _ => first | exact q h | exact e h | cases h

variable {P : Program} {F : Fm} {Γ : Gh}
/-- what is behind an operation that entered somewhere, whatever runs next -/
def Upo (P : Program) (F : Fm) (Γ : Gh) (β : Bt) (H' : Hp) (n' : Nat) (v : AV) (r : Result Next) : Prop :=
  ∀ (o : Oper) (a : Act) (next : Act → World → Prop) (Q : Exit → Act → World → Prop), (∀ β' L' x w', β.le β' → VR β' v x → MH P β' H'.get n' L' → Cur F Γ L' w' → next (a.put o.dst x) w') → o.upon P a next Q r
/-- calls that do as they are told -/
def ClOK (P : Program) (Γ : Gh) (cl : Cl) : Prop :=
  ∀ f args H n v H' n', cl f args H n = some (v, H', n') → ∀ β L vs w, VRs β args vs → MH P β H.get n L → Pre L Γ w →
    (∀ as w, (callFunc f as).run P w = .ok (.enter f as) w) ∧ Calls P f vs.toArray w fun e w' => ∃ β' L' x, β.le β' ∧ e = .returned x ∧ VR β' v x ∧ MH P β' H'.get n' L' ∧ Eff Γ Γ L L' w w'
/-- functions that are told otherwise -/
def ExOK (P : Program) (Γ : Gh) (ex : Xf) : Prop :=
  ∀ f args H id v H', ex f args H id = some (v, H') → ∀ F β L vs w m, VRs β args vs → MH P β H.get m L → Free β H m id → Cur F Γ L w →
    Upo P F Γ β H' m v ((callFunc f vs.toArray).run P w)
theorem Cur.eff0 {L L' : List Rowb} {w w' : World} (h : Cur F Γ L w) (he : Eff Γ Γ L L' w w') : Cur F Γ L' w' := by
  have := Cur.eff (U := L) (R := []) (by simpa using h) he
  simpa using this
theorem En.upo {β : Bt} {n : Nat} {H' : Hp} {v : AV} {s : Sem Next} {w : World} (h : En P F Γ β n H' v s w) : Upo P F Γ β H' n v (s.run P w) := by
  obtain ⟨β', L', x, w', h1, h2, h3, h4, h5⟩ := h
  intro o a next Q hk
  rcases h2 with h2 | ⟨h2, rfl⟩
  · rw [h2]; exact hk β' L' x w' h1 h3 h4 h5
  · rw [h2]; exact hk β' L' _ w' h1 h3 h4 h5
/-- one number more -/
theorem MH.ext {β : Bt} {H : Hp} {n : Nat} {L : List Rowb} (h : MH P β H.get n L) : MH P β H.get (n + 1) (L ++ [[]]) := by
  refine ⟨by simp [h.len], fun i hi => h.new i (by omega), fun i row hr => ?_, fun i hi => h.out i (by omega)⟩
  rw [List.getElem?_append] at hr
  split at hr
  · exact h.row i row hr
  · rename_i hlt
    rw [h.len] at hlt
    rw [h.new i (by omega), h.out i (by omega)]
    have : row = [] := by
      cases hk : i - L.length with
      | zero => rw [hk] at hr; simpa using hr.symm
      | succ k => rw [hk] at hr; simp at hr
    exact this
theorem Cur.ext {L : List Rowb} {w : World} (h : Cur F Γ L w) : Cur F Γ (L ++ [[]]) w := h.relist (by simp) (by simpa using h.nodup)
theorem MH.freeN {β : Bt} {H : Hp} {n : Nat} {L : List Rowb} (h : MH P β H.get n L) : Free β H (n + 1) n := ⟨Nat.lt_succ_self n, h.new n (Nat.le_refl n), h.out n (Nat.le_refl n)⟩
section
variable {R : Rn} [TbOK R.P P] {β : Bt} {L : List Rowb} {w : World} {n : Nat} {ρ : Operand → Value} {E : Tr AV} {H H' : Hp} {v : AV} {n' : Nat}
theorem tC (hρ : ∀ x, VR β (rho x E) (ρ x)) {c : Call} {f : FuncId} {args : List AV} (h : qH c E = some (f, args)) (ty : TypeId) :
    ∃ vs, VRs β args vs ∧ ∀ w, (do let d ← resolve ρ c ty; invoke d.target d.args : Sem Next).run P w = (callFunc f vs.toArray).run P w := by
  unfold qH at h
  split at h
  · rename_i x hc
    split at h
    · rename_i g first caps hx
      cases h
      have hv := hρ x
      rw [hx] at hv
      generalize hq : ρ x = u at hv
      cases hv with
      | fn h1 h2 =>
        rename_i fs cs
        refine ⟨fs ++ c.args.toList.map ρ ++ cs, (h1.app (VRs.map hρ _)).app h2, fun w => ?_⟩
        have e2 : Array.map ρ c.args = (List.map ρ c.args.toList).toArray := by apply Array.ext'; simp
        simp [resolve, hc, hq, Deferred.ofValue, invoke, e2]
    · cases h
  · cases h
theorem yA (hcl : ClOK P Γ R.cl) (hex : ExOK P Γ R.ex) (hM : MH P β H.get n L) (hw : Cur F Γ L w) (hρ : ∀ x, VR β (rho x E) (ρ x)) {o : Oper} (hq : opA o.op R H n n (n + 1) E = some (v, H', n')) :
    Upo P F Γ β H' n' v ((execOp ρ o).run P w) := by
  rcases uU hq with ⟨rd, h1, rfl, rfl⟩ | ⟨h1, rfl⟩ | ⟨c, hc, h1⟩
  · obtain ⟨z, hz, hr⟩ := oG (fun _ _ hb => hM.at_ hb) hρ h1
    intro o' a next Q hk
    rw [hr w hw.lies]
    exact hk β L z w (Bt.le.refl _) hz hM hw
  · exact (yZ hM.ext hM.freeN hw.ext hρ h1).upo
  · obtain ⟨⟨f, args⟩, h2, h3⟩ := ab h1
    obtain ⟨vs, h4, h5⟩ := tC (P := P) hρ h2 o.type
    have he : (execOp ρ o).run P w = (callFunc f vs.toArray).run P w := by rw [← h5 w]; obtain ⟨dst, op, ty, pos, after, guard⟩ := o; simp only at hc; subst hc; rfl
    rw [he]
    rcases lO h3 with h3 | h3
    · obtain ⟨h8, rfl⟩ := pY h3
      exact hex _ _ _ _ _ _ h8 F β _ vs w _ h4 hM.ext hM.freeN hw.ext
    · obtain ⟨h6, h7⟩ := hcl _ _ _ _ _ _ _ h3 β L vs w h4 hM hw.pre
      rw [h6]
      intro o' a next Q hk
      refine h7.mono ?_
      rintro e w' ⟨β', L', x, g1, rfl, g2, g3, g4⟩
      exact hk β' L' x w' g1 g2 g3 (hw.eff0 g4)
end
end
end Fw
end Go.Proofs.YtogmioecalmalaaGreat
