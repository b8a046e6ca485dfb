/- Loads and stores of whole structs, in one step. -/
import Derived.Test.YtmlcjiabnmdfeaaT
import Derived.Deep.WholeRow
namespace Go.Proofs.Ytmlcjiabnmdfeaa
open Go Go.RowKit Go.Shelf CT
set_option linter.unusedVariables false

section
variable {P : Program} {o : Oper} {a : Act} {w : World} {K : Act → World → Prop} {Q : Exit → Act → World → Prop} {ops : Array Oper} {rest : List Oper}
theorem exec_load {ρ : Operand → Value} {x : Operand} {ty t B : Nat} {cs : Array Value} {fr : Nat × Nat} (d : TypeDesc) (ho : o.op = .load ty x) (hx : ρ x = .pointer (some ⟨B, 0, none⟩)) (hg : w.heap[B]? = some (.cells cs t fr))
    (hu : P.underlying ty = some d) (hd : (match d with | .struct _ | .array _ _ => true | _ => false) = true) (hi : (P.info? ty).map (·.size) = some cs.size) :
    (execOp ρ o).run P w = .ok (.value (.agg cs)) w := by
  unfold execOp
  simp only [ho, hx, Instr.loadAt, Instr.sureAddr, Sem.run_bind, Sem.run_pure, Result.andThen_ok, run_loadVar_row w B t ty cs fr d hg hu hd hi]
theorem wpList_load {x : Operand} {ty t B : Nat} {cs : Array Value} {fr : Nat × Nat} (d : TypeDesc) (hgd : o.guard = none) (ho : o.op = .load ty x) (hx : a.eval x = .pointer (some ⟨B, 0, none⟩)) (hg : w.heap[B]? = some (.cells cs t fr))
    (hu : P.underlying ty = some d) (hd : (match d with | .struct _ | .array _ _ => true | _ => false) = true) (hi : (P.info? ty).map (·.size) = some cs.size)
    (h : wpList P ops Q rest (a.put o.dst (.agg cs)) w) : wpList P ops Q (o :: rest) a w :=
  wpList_plain hgd fun K hK => by
    unfold Oper.wp
    rw [exec_load d ho hx hg hu hd hi]
    exact hK _ _ h
theorem wpList_store {x y : Operand} {ty t B : Nat} {old cs : Array Value} (hgd : o.guard = none) (ho : o.op = .store ty x y) (hx : a.eval x = .pointer (some ⟨B, 0, none⟩)) (hy : a.eval y = .agg cs) (hg : w.heap[B]? = some (.cells old t (0, 0)))
    (hi : (P.info? ty).map (·.size) = some cs.size) (hs : old.size = cs.size) (h1 : cs.all (·.oneCell') = true)
    (h : wpList P ops Q rest (a.put o.dst undef) (w.setRow B cs)) : wpList P ops Q (o :: rest) a w :=
  wpList_plain hgd fun K hK => by
    unfold Oper.wp execOp
    simp only [ho, hx, hy, Instr.storeAt, Instr.sureAddr, Sem.run_bind, Sem.run_pure, Result.andThen_ok, run_storeVar_row w B t ty old cs hg hi hs h1]
    exact hK _ _ h
theorem wpList_run {v : Value} {w' : World} (hgd : o.guard = none) (hr : (execOp a.eval o).run P w = .ok (.value v) w') (h : wpList P ops Q rest (a.put o.dst v) w') : wpList P ops Q (o :: rest) a w :=
  wpList_plain hgd fun K hK => by
    unfold Oper.wp
    rw [hr]
    exact hK _ _ h
theorem exec_build2 {ρ : Operand → Value} {t i j : Nat} {x y : Operand} {vx vy : Value} {cs : Array Value} (ho : o.op = .build t #[(i, x), (j, y)]) (hx : ρ x = vx) (hy : ρ y = vy) (hb : (Instr.build t #[(i, vx), (j, vy)]).run P w = .ok (.agg cs) w) :
    (execOp ρ o).run P w = .ok (.value (.agg cs)) w := by
  subst hx hy
  unfold execOp
  simp only [ho, List.map_toArray, List.map_cons, List.map_nil, Sem.run_bind, Sem.run_pure, Result.andThen_ok, hb]
end
end Go.Proofs.Ytmlcjiabnmdfeaa
