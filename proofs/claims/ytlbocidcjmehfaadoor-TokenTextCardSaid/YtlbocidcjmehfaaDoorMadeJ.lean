import Derived.Test.YtlbocidcjmehfaaDoorB1J
set_option linter.unusedVariables false
set_option linter.unusedSimpArgs false
namespace Go.Proofs.YtlbocidcjmehfaaDoor
inductive MExpr (names : List ByteArray) : Nat → AExpr → Prop
 | name {d : Nat} {x : ByteArray} (h : x ∈ names) : MExpr names d (.mk 2 0 x [])
 | num {d : Nat} {n : Int} (h0 : 0 ≤ n) (h1 : n < 4611686018427387904) : MExpr names d (.mk 1 n emptyB [])
 | un {d : Nat} {op : Int} {e : AExpr} (ho : op = 3 ∨ op = 4) (he : MExpr names d e) : MExpr names (d + 1) (.mk op 0 emptyB [e])
 | bin {d : Nat} {op : Int} {a b : AExpr} (h0 : 5 ≤ op) (h1 : op ≤ 17) (ha : MExpr names d a) (hb : MExpr names d b) : MExpr names (d + 1) (.mk op 0 emptyB [a, b])
theorem MExpr.mono {names : List ByteArray} {d d' : Nat} {e : AExpr} (h : MExpr names d e) (hd : d ≤ d') : MExpr names d' e := by
 induction h generalizing d' with
 | name h => exact .name h
 | num h0 h1 => exact .num h0 h1
 | @un d op e ho he ih =>
  obtain ⟨k, rfl⟩ : ∃ k, d' = k + 1 := ⟨d' - 1, by omega⟩
  exact .un ho (ih (by omega))
 | @bin d op a b h0 h1 ha hb iha ihb =>
  obtain ⟨k, rfl⟩ : ∃ k, d' = k + 1 := ⟨d' - 1, by omega⟩
  exact .bin h0 h1 (iha (by omega)) (ihb (by omega))
inductive MRef (ms : List AMutex) (ps : List AParam) (vars : List ByteArray) : ARef → Prop
 | arr {m : AMutex} {e : AExpr} (hm : m ∈ ms) (hs : 0 < m.size) (he : MExpr vars 1 e) : MRef ms ps vars ⟨m.name, [e]⟩
 | scalar {m : AMutex} (hm : m ∈ ms) (hs : m.size ≤ 0) : MRef ms ps vars ⟨m.name, []⟩
 | param {x : AParam} (hx : x ∈ ps) (hm : x.mutex = true) : MRef ms ps vars ⟨x.name, []⟩
inductive MArgs (ms : List AMutex) (ps : List AParam) (vars : List ByteArray) : List AParam → List AArg → Prop
 | nil : MArgs ms ps vars [] []
 | mutex {x : AParam} {l : List AParam} {asl : List AArg} {r : ARef} (hx : x.mutex = true) (hr : MRef ms ps vars r) (h : MArgs ms ps vars l asl) : MArgs ms ps vars (x :: l) (⟨true, r, .zero⟩ :: asl)
 | expr {x : AParam} {l : List AParam} {asl : List AArg} {e : AExpr} (hx : x.mutex = false) (he : MExpr vars 2 e) (h : MArgs ms ps vars l asl) : MArgs ms ps vars (x :: l) (⟨false, .zero, e⟩ :: asl)
def varName (left : Nat) : ByteArray := bytes [118, UInt8.ofNat (97 + left % 26), UInt8.ofNat (97 + left / 26 % 26)]
abbrev Sig := ByteArray × List AParam
inductive MBlock (ms : List AMutex) (fs : List Sig) (ps : List AParam) : List ByteArray → Nat → Nat → List AStmt → Nat → Prop
 | nil {vars : List ByteArray} {deep left : Nat} : MBlock ms fs ps vars deep left [] left
 | lock {vars : List ByteArray} {deep left left' : Nat} {r : ARef} {rest : List AStmt} (hr : MRef ms ps vars r) (h : MBlock ms fs ps vars deep left rest left') :
   MBlock ms fs ps vars deep (left + 1) (.mk 5 emptyB .zero r [] [] [] :: rest) left'
 | unlock {vars : List ByteArray} {deep left left' : Nat} {r : ARef} {rest : List AStmt} (hr : MRef ms ps vars r) (h : MBlock ms fs ps vars deep left rest left') :
   MBlock ms fs ps vars deep (left + 1) (.mk 6 emptyB .zero r [] [] [] :: rest) left'
 | var {vars : List ByteArray} {deep left left' : Nat} {e : AExpr} {rest : List AStmt} (he : MExpr vars 2 e) (h : MBlock ms fs ps (vars ++ [varName left]) deep left rest left') :
   MBlock ms fs ps vars deep (left + 1) (.mk 1 (varName left) e .zero [] [] [] :: rest) left'
 | assign {vars : List ByteArray} {deep left left' : Nat} {x : ByteArray} {e : AExpr} {rest : List AStmt} (hx : x ∈ vars) (he : MExpr vars 2 e) (h : MBlock ms fs ps vars deep left rest left') :
   MBlock ms fs ps vars deep (left + 1) (.mk 2 x e .zero [] [] [] :: rest) left'
 | call {vars : List ByteArray} {deep left left' : Nat} {k : Int} {g : Sig} {asl : List AArg} {rest : List AStmt} (hk : k = 3 ∨ k = 4) (hg : g ∈ fs) (ha : MArgs ms ps vars g.2 asl) (h : MBlock ms fs ps vars deep left rest left') :
   MBlock ms fs ps vars deep (left + 1) (.mk k g.1 .zero .zero asl [] [] :: rest) left'
 | cond {vars : List ByteArray} {deep left l1 l2 left' : Nat} {e : AExpr} {thn els rest : List AStmt} (he : MExpr vars 2 e) (ht : MBlock ms fs ps vars deep left thn l1) (hel : MBlock ms fs ps vars deep l1 els l2) (h : MBlock ms fs ps vars (deep + 1) l2 rest left') :
   MBlock ms fs ps vars (deep + 1) (left + 1) (.mk 7 emptyB e .zero [] thn els :: rest) left'
 | loop {vars : List ByteArray} {deep left l1 left' : Nat} {e : AExpr} {thn rest : List AStmt} (he : MExpr vars 2 e) (ht : MBlock ms fs ps vars deep left thn l1) (h : MBlock ms fs ps vars (deep + 1) l1 rest left') :
   MBlock ms fs ps vars (deep + 1) (left + 1) (.mk 8 emptyB e .zero [] thn [] :: rest) left'
 | ret {vars : List ByteArray} {deep left left' : Nat} {rest : List AStmt} (h : MBlock ms fs ps vars deep left rest left') :
   MBlock ms fs ps vars deep (left + 1) (.mk 9 emptyB .zero .zero [] [] [] :: rest) left'
 | pair {vars : List ByteArray} {deep left l1 left' : Nat} {r : ARef} {mid rest : List AStmt} (hr : MRef ms ps vars r) (hm : MBlock ms fs ps vars 0 left mid l1) (h : MBlock ms fs ps vars deep l1 rest left') :
   MBlock ms fs ps vars deep (left + 1) (.mk 5 emptyB .zero r [] [] [] :: (mid ++ .mk 6 emptyB .zero r [] [] [] :: rest)) left'
theorem MBlock.le {ms : List AMutex} {fs : List Sig} {ps : List AParam} {vars : List ByteArray} {deep left left' : Nat} {l : List AStmt} (h : MBlock ms fs ps vars deep left l left') : left' ≤ left := by
 induction h <;> omega
def MMutex (i : Nat) (m : AMutex) : Prop := m.name = bytes [UInt8.ofNat (97 + i)] ∧ ((m.reentrant = false ∧ 0 ≤ m.size ∧ m.size ≤ 3) ∨ (m.reentrant = true ∧ m.size = 0))
def MGlobal (i : Nat) (g : AGlobal) : Prop := g.name = bytes [103, UInt8.ofNat (48 + i)] ∧ -2 ≤ g.init ∧ g.init ≤ 2
def MParams (l : List AParam) : Prop := l.length ≤ 2 ∧ ∀ k (h : k < l.length), l[k].name = bytes [112, UInt8.ofNat (48 + (l.length - k))]
def MFunc (i : Nat) (f : AFunc) : Prop := (i = 0 → f.name = bytes [109, 97, 105, 110] ∧ f.params = []) ∧ (0 < i → f.name = bytes [102, UInt8.ofNat (48 + i)]) ∧ MParams f.params
def AFunc.sig (f : AFunc) : Sig := (f.name, f.params)
def ownVars (gs : List AGlobal) (ps : List AParam) : List ByteArray := gs.map AGlobal.name ++ (ps.filter fun x => !x.mutex).map AParam.name
inductive MBodies (ms : List AMutex) (fs : List Sig) (gs : List AGlobal) : Nat → List AFunc → Prop
 | nil {left : Nat} : MBodies ms fs gs left []
 | cons {left left' : Nat} {f : AFunc} {l : List AFunc} (h : MBlock ms fs f.params (ownVars gs f.params) 2 left f.body left') (hl : MBodies ms fs gs left' l) : MBodies ms fs gs left (f :: l)
structure MProg (p : AProg) : Prop where
 mutexes : 1 ≤ p.mutexes.length ∧ p.mutexes.length ≤ 4 ∧ ∀ k (h : k < p.mutexes.length), MMutex k p.mutexes[k]
 globals : p.globals.length ≤ 2 ∧ ∀ k (h : k < p.globals.length), MGlobal k p.globals[k]
 funcs : 1 ≤ p.funcs.length ∧ p.funcs.length ≤ 4 ∧ ∀ k (h : k < p.funcs.length), MFunc k p.funcs[k]
 bodies : MBodies p.mutexes (p.funcs.map AFunc.sig) p.globals 24 p.funcs
end Go.Proofs.YtlbocidcjmehfaaDoor
