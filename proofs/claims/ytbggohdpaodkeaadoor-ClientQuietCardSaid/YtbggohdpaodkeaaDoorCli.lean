/- The structs of clients and of messages, as the walks see them: rows of cells. -/
import Derived.Test.YtbggohdpaodkeaaDoorRow
namespace Go.Proofs.YtbggohdpaodkeaaDoor
structure Rq where
  cl : Int
  rq : Int
  kd : Int
  ky : List UInt8
  vl : List UInt8
  had : Bool
  old : List UInt8
  a : Int
  t : Int
  n : Int
  hi : List UInt8
  lim : Int
structure An where
  er : Int
  a : Int
  t : Int
  n : Int
  fd : Bool
  vl : List UInt8
  itA : Option Addr
  itn : Nat
  itc : Nat
  nx : List UInt8
  mo : Bool
structure Cli where
  id : Int
  nx : Int
  pA : Option Addr
  pn : Nat
  pc : Nat
  lA : Option Addr
  ln : Nat
  lc : Nat
  req : Rq
  op : Bool
  tr : Int
structure Ms where
  kind : Int
  frm : Int
  to : Int
  shard : Int
  epoch : Int
  move : Int
  lease : Int
  num : Int
  of : Int
  a : Int
  t : Int
  n : Int
  text : List UInt8
  req : Rq
  ans : An
  pA : Option Addr
  pn : Nat
  pc : Nat
  mA : Option Addr
  mn : Nat
  mc : Nat
abbrev rqA (r : Rq) : Array Value := #[.int .i64 r.cl, .int .i64 r.rq, .int .i64 r.kd, .string ⟨r.ky.toArray⟩, .string ⟨r.vl.toArray⟩, .bool r.had, .string ⟨r.old.toArray⟩, .int .i64 r.a, .int .i64 r.t, .int .i64 r.n, .string ⟨r.hi.toArray⟩, .int .i64 r.lim]
abbrev anA (r : An) : Array Value := #[.int .i64 r.er, .int .i64 r.a, .int .i64 r.t, .int .i64 r.n, .bool r.fd, .string ⟨r.vl.toArray⟩, .slice r.itA r.itn r.itc, .string ⟨r.nx.toArray⟩, .bool r.mo]
abbrev cliA (c : Cli) : Array Value := #[.int .i64 c.id, .int .i64 c.nx, .slice c.pA c.pn c.pc, .slice c.lA c.ln c.lc, .int .i64 c.req.cl, .int .i64 c.req.rq, .int .i64 c.req.kd, .string ⟨c.req.ky.toArray⟩, .string ⟨c.req.vl.toArray⟩, .bool c.req.had, .string ⟨c.req.old.toArray⟩, .int .i64 c.req.a, .int .i64 c.req.t, .int .i64 c.req.n, .string ⟨c.req.hi.toArray⟩, .int .i64 c.req.lim, .bool c.op, .int .i64 c.tr]
abbrev msA (m : Ms) : Array Value := #[.int .i64 m.kind, .int .i64 m.frm, .int .i64 m.to, .int .i64 m.shard, .int .i64 m.epoch, .int .i64 m.move, .int .i64 m.lease, .int .i64 m.num, .int .i64 m.of, .int .i64 m.a, .int .i64 m.t, .int .i64 m.n, .string ⟨m.text.toArray⟩, .int .i64 m.req.cl, .int .i64 m.req.rq, .int .i64 m.req.kd, .string ⟨m.req.ky.toArray⟩, .string ⟨m.req.vl.toArray⟩, .bool m.req.had, .string ⟨m.req.old.toArray⟩, .int .i64 m.req.a, .int .i64 m.req.t, .int .i64 m.req.n, .string ⟨m.req.hi.toArray⟩, .int .i64 m.req.lim, .int .i64 m.ans.er, .int .i64 m.ans.a, .int .i64 m.ans.t, .int .i64 m.ans.n, .bool m.ans.fd, .string ⟨m.ans.vl.toArray⟩, .slice m.ans.itA m.ans.itn m.ans.itc, .string ⟨m.ans.nx.toArray⟩, .bool m.ans.mo, .slice m.pA m.pn m.pc, .slice m.mA m.mn m.mc]
abbrev zcA : Array Value := #[.int .i64 0, .int .i64 0, .slice none 0 0, .slice none 0 0, .int .i64 0, .int .i64 0, .int .i64 0, .string ⟨#[]⟩, .string ⟨#[]⟩, .bool false, .string ⟨#[]⟩, .int .i64 0, .int .i64 0, .int .i64 0, .string ⟨#[]⟩, .int .i64 0, .bool false, .int .i64 0]
abbrev ztA : Array Value := #[.bool false, .int .i64 0, .int .i64 0, .int .i64 0, .string ⟨#[]⟩, .string ⟨#[]⟩, .bool false, .string ⟨#[]⟩, .int .i64 0, .int .i64 0, .int .i64 0, .string ⟨#[]⟩, .int .i64 0, .bool false, .int .i64 0, .int .i64 0, .int .i64 0, .int .i64 0, .bool false, .string ⟨#[]⟩, .slice none 0 0, .string ⟨#[]⟩, .bool false, .int .i64 0]
abbrev cliV (c : Cli) : Value := .agg (cliA c)
abbrev msV (m : Ms) : Value := .agg (msA m)
abbrev rqV (r : Rq) : Value := .agg (rqA r)
theorem Blk.cli {w : World} {g : Nat} {t : TypeId} {c : Cli} (h : Blk w g t (cliA c)) : g < w.heap.size ∧ w.cell? ⟨g, 0, none⟩ = some (.int .i64 c.id) ∧ w.cell? ⟨g, 1, none⟩ = some (.int .i64 c.nx) ∧ w.cell? ⟨g, 2, none⟩ = some (.slice c.pA c.pn c.pc) ∧ w.cell? ⟨g, 3, none⟩ = some (.slice c.lA c.ln c.lc) ∧ w.cell? ⟨g, 4, none⟩ = some (.int .i64 c.req.cl) ∧ w.cell? ⟨g, 5, none⟩ = some (.int .i64 c.req.rq) ∧ w.cell? ⟨g, 6, none⟩ = some (.int .i64 c.req.kd) ∧ w.cell? ⟨g, 7, none⟩ = some (.string ⟨c.req.ky.toArray⟩) ∧ w.cell? ⟨g, 8, none⟩ = some (.string ⟨c.req.vl.toArray⟩) ∧ w.cell? ⟨g, 9, none⟩ = some (.bool c.req.had) ∧ w.cell? ⟨g, 10, none⟩ = some (.string ⟨c.req.old.toArray⟩) ∧ w.cell? ⟨g, 11, none⟩ = some (.int .i64 c.req.a) ∧ w.cell? ⟨g, 12, none⟩ = some (.int .i64 c.req.t) ∧ w.cell? ⟨g, 13, none⟩ = some (.int .i64 c.req.n) ∧ w.cell? ⟨g, 14, none⟩ = some (.string ⟨c.req.hi.toArray⟩) ∧ w.cell? ⟨g, 15, none⟩ = some (.int .i64 c.req.lim) ∧ w.cell? ⟨g, 16, none⟩ = some (.bool c.op) ∧ w.cell? ⟨g, 17, none⟩ = some (.int .i64 c.tr) :=
  ⟨h.lt, h.cell 0, h.cell 1, h.cell 2, h.cell 3, h.cell 4, h.cell 5, h.cell 6, h.cell 7, h.cell 8, h.cell 9, h.cell 10, h.cell 11, h.cell 12, h.cell 13, h.cell 14, h.cell 15, h.cell 16, h.cell 17⟩
end Go.Proofs.YtbggohdpaodkeaaDoor
