/- Methods called through interfaces: which function is entered. Plain lemmas; conditions: in each. -/
import Derived.Test.YtemfcbgmgfcjeaaVec
set_option linter.unusedVariables false
set_option linter.unusedSimpArgs false
namespace Go.Proofs.Ytemfcbgmgfcjeaa.Fl
open Go.RowKit
theorem reads_blk {P : Program} {b off : Nat} {cs : List Value} {t e : TypeId} {v : Value} (hv : loadV P e cs off = some v) : Reads P (.blk b cs t) e ⟨b, off, none⟩ v := fun _ hw => run_loadVar (x := ⟨b, cs, t⟩) hw hv
theorem run_underlying {P : Program} {t : TypeId} {u : TypeDesc} (h : P.underlying t = some u) (w : World) : (underlying t).run P w = .ok u w := by
  unfold underlying
  show (match P.underlying t with | some i => (pure i : Sem TypeDesc) | none => stuck "no such type").run P w = _
  rw [h]; rfl
theorem run_method {P : Program} {w : World} {t e : TypeId} {ti : TypeInfo} {m : Method} {name : String} {f : FuncId} {a : Addr} {x : Value} {fuel : Nat} (ht : P.info? t = some ti) (hm : ti.methods.find? (·.name == name) = some m) (hp : m.path = #[]) (hf : m.func = some (f, false))
    (hu : P.underlying t = some (.pointer e)) (hl : (loadVar e a).run P w = .ok x w) : (method (fuel + 1) t (.pointer (some a)) name).run P w = .ok (f, x) w := by
  unfold method
  rw [run_bind_ok (run_typeInfo ht w)]
  simp only [hm]
  rw [hp]
  rw [run_bind_ok (show (follow (#[] : Array FieldStep).toList t (Place.val (.pointer (some a)))).run P w = .ok (t, Place.val (.pointer (some a))) w from rfl)]
  simp only [hf]
  rw [show (#[] : Array FieldStep).isEmpty = true from rfl, if_pos rfl]
  have hr : (receiverAt t (Place.val (.pointer (some a))) false (some ((name.splitOn ".").getLastD name))).run P w = .ok x w := by
    unfold receiverAt
    rw [run_bind_ok (run_underlying hu w)]
    simp only
    rw [run_bind_ok (show (Place.get t (Place.val (.pointer (some a)))).run P w = .ok (.pointer (some a)) w from rfl)]
    rw [run_bind_ok (show (Builtin.ssaWrapNilChk_ #[t] t #[.pointer (some a), strVal "", strVal ((name.splitOn ".").getLastD name)]).run P w = .ok (.pointer (some a)) w from rfl)]
    rw [run_bind_ok (show (asAddr (.pointer (some a))).run P w = .ok a w from rfl)]
    exact hl
  rw [run_bind_ok hr]
  rfl
theorem enters_ptr {P : Program} {t e : TypeId} {name : String} {f : FuncId} {a : Addr} {x : Value} {all args args2 : Array Value} {r : Res} {pre : Mem} (hm : ((P.info? t).bind fun ti => (ti.methods.find? (·.name == name)).map fun m => (m.path, m.func)) = some (#[], some (f, false)))
    (hu : P.underlying t = some (.pointer e)) (hfn : (P.funcs[f]?).map (fun fn => (fn.name == "runtime.NumGoroutine", fn.body.isNone)) = some (false, false)) (h0 : all[0]? = some (Value.iface t (.pointer (some a)))) (hx : all.extract 1 all.size = args) (h2 : #[x] ++ args = args2) (hpre : pre[0]? = some (some r)) (hr : Reads P r e a x) :
    EntersOb P (invoke (.fn (.method name) #[]) all) pre f args2 := by
  intro w hw
  have hl := hr w (hw.ok 0 r hpre)
  obtain ⟨ti, ht, hm2⟩ := Option.bind_eq_some_iff.1 hm
  obtain ⟨m, hm3, hm4⟩ := Option.map_eq_some_iff.1 hm2
  obtain ⟨fn, hf1, hf2⟩ := Option.map_eq_some_iff.1 hfn
  simp only [Prod.mk.injEq] at hm4 hf2
  have e1 : invoke (.fn (.method name) #[]) all = callMethod (.iface t (.pointer (some a))) name args := by
    unfold invoke
    simp only [h0]
    rw [hx]
  rw [e1, ← h2]
  unfold callMethod
  simp only
  rw [run_bind_ok (show (program).run P w = .ok P w from rfl), run_bind_ok (show (method (P.types.size + Made.depth) t (.pointer (some a)) name).run P w = .ok (f, x) w from run_method (fuel := P.types.size + 99) ht hm3 hm4.1 hm4.2 hu hl)]
  unfold callFunc
  rw [run_bind_ok (show (program).run P w = .ok P w from rfl)]
  simp only [hf1, hf2.1, hf2.2]
  rfl
theorem vec_cut {b off n j cap k : Nat} {e : TypeId} {cs : List Value} (hj : j ≤ n) : ∀ w, (Res.own (vec b off n cap k e cs)).ok w → (Res.own (vec b off j cap k e (cs.take (j * k)))).ok w ∧ ∀ x, (Res.own (vec b off j cap k e (cs.take (j * k)))).fp x → (Res.own (vec b off n cap k e cs)).fp x := by
  intro w h
  obtain ⟨h1, h2, h3, h4⟩ := h
  have hk : j * k ≤ n * k := Nat.mul_le_mul_right k hj
  refine ⟨⟨by rw [List.length_take]; omega, by omega, h3, fun hc => ?_⟩, fun x hx => hx⟩
  obtain ⟨h5, g, cur, h6, h7, h8, h9⟩ := h4 hc
  refine ⟨h5, g, cur, h6, h7, h8, ?_⟩
  rw [← h9, List.take_take, Nat.min_eq_left hk]
theorem vec_cutL {α : Type} {enc : α → List Value} {k : Nat} (he : EncOk enc k) {b off n j cap : Nat} {e : TypeId} {xs : List α} (hj : j ≤ n) : ∀ w, (Res.own (vec b off n cap k e (xs.flatMap enc))).ok w → (Res.own (vec b off j cap k e ((xs.take j).flatMap enc))).ok w ∧ ∀ x, (Res.own (vec b off j cap k e ((xs.take j).flatMap enc))).fp x → (Res.own (vec b off n cap k e (xs.flatMap enc))).fp x := by
  rw [← he.ftake]; exact vec_cut hj
end Go.Proofs.Ytemfcbgmgfcjeaa.Fl
