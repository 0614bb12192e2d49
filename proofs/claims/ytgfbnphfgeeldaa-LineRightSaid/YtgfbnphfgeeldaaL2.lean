/- Contracts of functions of the given program (what each computes), conditions as stated in each theorem. By an AI agent. -/
import Derived.Test.YtgfbnphfgeeldaaL1
import Derived.Test.YtgfbnphfgeeldaaAm21
namespace Go.Proofs.Line
open Go.Am
set_option linter.unusedSimpArgs false
structure TodoM where
  kind : Int
  dfn : Int
  name : ByteArray
  had : Bool
  has : Bool
  old : ByteArray
  new : ByteArray
  fr : Int
  to : Int
  on : Bool
  deriving DecidableEq
def eInt (n : Int) : AV := .lit (.int .i64 n)
def eInts (l : List Int) : AV := .sl 1 (l.map eInt)
def eTodo (t : TodoM) : AV := .agg [.lit (.int .i64 t.kind), .lit (.int .i64 t.dfn), .lit (.string t.name), .lit (.bool t.had), .lit (.bool t.has), .lit (.string t.old), .lit (.string t.new), .lit (.int .i64 t.fr), .lit (.int .i64 t.to), .lit (.bool t.on)]
def eTodos (l : List TodoM) : AV := .sl 10 (l.map eTodo)
structure LineM where
  todos : List (List TodoM)
  stack : List (List Int)
  back : List Int
  busy : Bool
  deriving DecidableEq
def eTodoss (l : List (List TodoM)) : AV := .sl 1 (l.map eTodos)
def eIntss (l : List (List Int)) : AV := .sl 1 (l.map eInts)
def eLine (l : LineM) : AV := .agg [eTodoss l.todos, eIntss l.stack, eInts l.back, .lit (.bool l.busy)]

theorem nr_int (n : Int) : noRef (eInt n) = true := rfl
theorem nr_ints (l : List Int) : noRef (eInts l) = true := by simp only [eInts, noRef]; exact noRefL_map _ nr_int l
theorem nr_todo (t : TodoM) : noRef (eTodo t) = true := rfl
theorem nr_todos (l : List TodoM) : noRef (eTodos l) = true := by simp only [eTodos, noRef]; exact noRefL_map _ nr_todo l
theorem nr_todoss (l : List (List TodoM)) : noRef (eTodoss l) = true := by simp only [eTodoss, noRef]; exact noRefL_map _ nr_todos l
theorem nr_intss (l : List (List Int)) : noRef (eIntss l) = true := by simp only [eIntss, noRef]; exact noRefL_map _ nr_ints l
theorem nr_line (l : LineM) : noRef (eLine l) = true := by simp only [eLine, noRef, noRefL, nr_todoss, nr_intss, nr_ints]; rfl
theorem wrap_succ (k : Nat) (h : k < 4611686018427387904) : IntKind.i64.wrap ((k : Int) + 1) = ((k + 1 : Nat) : Int) := by
  rw [IntWalk.i64_in _ (by omega)]; rfl
theorem nrl_ints (l : List Int) : noRefL (l.map eInt) = true := noRefL_map _ nr_int l
theorem nrl_todo (l : List TodoM) : noRefL (l.map eTodo) = true := noRefL_map _ nr_todo l
theorem nrl_todos (l : List (List TodoM)) : noRefL (l.map eTodos) = true := noRefL_map _ nr_todos l
theorem nrl_intss (l : List (List Int)) : noRefL (l.map eInts) = true := noRefL_map _ nr_ints l
theorem cl_eline (l : LineM) : cells (eLine l) = [eTodoss l.todos, eIntss l.stack, eInts l.back, .lit (.bool l.busy)] := rfl
theorem cl_etodo (t : TodoM) : cells (eTodo t) = [.lit (.int .i64 t.kind), .lit (.int .i64 t.dfn), .lit (.string t.name), .lit (.bool t.had), .lit (.bool t.has), .lit (.string t.old), .lit (.string t.new), .lit (.int .i64 t.fr), .lit (.int .i64 t.to), .lit (.bool t.on)] := rfl
theorem cl_eints (l : List Int) : cells (eInts l) = [eInts l] := rfl
theorem cl_eint (l : Int) : cells (eInt l) = [eInt l] := rfl
theorem cl_etodos (l : List TodoM) : cells (eTodos l) = [eTodos l] := rfl
theorem so_eline (l : LineM) : (eLine l).solid = true := rfl
theorem so_etodo (l : TodoM) : (eTodo l).solid = true := rfl
theorem ag_eline (l : LineM) : isAggV (eLine l) = true := rfl
theorem ag_etodo (l : TodoM) : isAggV (eTodo l) = true := rfl

theorem so_eInt (x : Int) : AV.solid (eInt x) = true := rfl
theorem ag_eInt (x : Int) : isAggV (eInt x) = false := rfl
theorem on_eInt (x : Int) : AV.one (eInt x) = true := rfl
theorem so_eInts (x : List Int) : AV.solid (eInts x) = true := rfl
theorem ag_eInts (x : List Int) : isAggV (eInts x) = false := rfl
theorem on_eInts (x : List Int) : AV.one (eInts x) = true := rfl
theorem so_eTodos (x : List TodoM) : AV.solid (eTodos x) = true := rfl
theorem ag_eTodos (x : List TodoM) : isAggV (eTodos x) = false := rfl
theorem on_eTodos (x : List TodoM) : AV.one (eTodos x) = true := rfl
theorem so_eTodoss (x : List (List TodoM)) : AV.solid (eTodoss x) = true := rfl
theorem ag_eTodoss (x : List (List TodoM)) : isAggV (eTodoss x) = false := rfl
theorem on_eTodoss (x : List (List TodoM)) : AV.one (eTodoss x) = true := rfl
theorem so_eIntss (x : List (List Int)) : AV.solid (eIntss x) = true := rfl
theorem ag_eIntss (x : List (List Int)) : isAggV (eIntss x) = false := rfl
theorem on_eIntss (x : List (List Int)) : AV.one (eIntss x) = true := rfl
theorem w_ints (l : List Int) : Wide 1 (l.map eInt) := Wide.map eInt (fun _ => rfl) l
theorem w_intss (l : List (List Int)) : Wide 1 (l.map eInts) := Wide.map eInts (fun _ => rfl) l
theorem w_todos (l : List TodoM) : Wide 10 (l.map eTodo) := Wide.map eTodo (fun _ => rfl) l
theorem w_todoss (l : List (List TodoM)) : Wide 1 (l.map eTodos) := Wide.map eTodos (fun _ => rfl) l
theorem rk_ints (ts : List Nat) (l : List Int) : refOKL ts (l.map eInt) = true := refOKL_of ts _ (nrl_ints l)
theorem rk_todo (ts : List Nat) (l : List TodoM) : refOKL ts (l.map eTodo) = true := refOKL_of ts _ (nrl_todo l)
theorem rk_todos (ts : List Nat) (l : List (List TodoM)) : refOKL ts (l.map eTodos) = true := refOKL_of ts _ (nrl_todos l)
theorem rk_intss (ts : List Nat) (l : List (List Int)) : refOKL ts (l.map eInts) = true := refOKL_of ts _ (nrl_intss l)
theorem rk_eLine (ts : List Nat) (l : LineM) : refOK ts (eLine l) = true := refOK_of ts _ (nr_line l)
theorem rk_eInts (ts : List Nat) (l : List Int) : refOK ts (eInts l) = true := refOK_of ts _ (nr_ints l)
theorem rk_eTodos (ts : List Nat) (l : List TodoM) : refOK ts (eTodos l) = true := refOK_of ts _ (nr_todos l)
theorem rk_eTodo (ts : List Nat) (l : TodoM) : refOK ts (eTodo l) = true := refOK_of ts _ (nr_todo l)
theorem rk_eTodoss (ts : List Nat) (l : List (List TodoM)) : refOK ts (eTodoss l) = true := refOK_of ts _ (nr_todoss l)
theorem rk_eIntss (ts : List Nat) (l : List (List Int)) : refOK ts (eIntss l) = true := refOK_of ts _ (nr_intss l)
end Go.Proofs.Line
