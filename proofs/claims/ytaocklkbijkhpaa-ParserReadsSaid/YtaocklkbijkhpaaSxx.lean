import Derived.Test.YtaocklkbijkhpaaSxw
/- The run within one region; calls of functions without a text. No program in sight. -/
set_option linter.unusedVariables false
set_option linter.unusedSimpArgs false
namespace SX
open Go Go.RowKit
section
variable {P : Program} {C : Ctx} {st : St}
variable {ops rest : List Oper} {acc : List (List Nat × List Nat)} {K : List (List Nat × List Nat) → St → Prop} {dst : Option Tmp} {ty : TypeId}
theorem vals_has {E : Env} {S : Nat → Prop} {w : World} : ∀ {vs args : List Value}, All2 (AV.has E S w) (args.map AV.v) vs → vs = args
  | [], [], _ => rfl
  | v :: vs, a :: args, h => by rw [vals_has h.2, show v = a from h.1]
  | [], _ :: _, h => h.elim
  | _ :: _, [], h => h.elim
theorem Go1.callE {f : FuncId} {as : Array Operand} {tys : Array TypeId} {args vs : List Value} (ha : evs st as.toList = some (args.map AV.v)) (hc : ∀ w, (callFunc f args.toArray).run P w = .ok (.value (.tuple vs.toArray)) w) (hd : dstOK dst C.nt = true)
    (next : Reg P C ops rest (st.app dst ⟨.tup (vs.map fun v => .one (.c (.val v))), []⟩) (([], []) :: acc) K) : Go1 P C ops dst (.call ⟨.value (.func f), as, tys⟩) ty rest st acc K :=
  Go1.pureV [] [] (by simp) hd (by simp) (fun o ho _ st' E S a w hev hs _ => by
    have hop : o.op.operands = #[.func f] ++ as := by rw [ho]; rfl
    have ha' : evs st' as.toList = some (args.map AV.v) := by rw [evs_congr (fun x hx => hev x (by rw [hop]; simp at hx; simp [hx]))]; exact ha
    obtain ⟨hall, _⟩ := evs_has hs ha'
    have hvs := vals_has hall
    have har : as.map a.eval = args.toArray := by apply Array.ext'; simpa using hvs
    refine ⟨fun i hi => ?_, _, ?_, vs, rfl, ?_⟩
    · simp only [AV.ids, List.mem_flatMap, List.mem_map] at hi
      obtain ⟨x, ⟨v, _, rfl⟩, hx⟩ := hi
      cases hx
    · unfold execOp; rw [ho]
      have he : a.eval (.func f) = .func (.func f) #[] #[] := rfl
      have := hc w
      simp [resolve, he, Deferred.ofValue, invoke, har, this]
    · clear ha hc next hd
      induction vs with
      | nil => trivial
      | cons v vs ih => exact ⟨rfl, ih⟩) next
end
/-- The run within a region. -/
structure HeldR (q : Prop) : Prop where
  out : q
theorem goR {p q : Prop} (h : q) (k : HeldR q → p := by
    intro h
    (first
      | (refine SX.Go1.is ?_; first
          | (refine SX.Go1.isLoad ?_; first | refine SX.G.load2 ?_ | refine SX.G.load1 ?_ | refine SX.G.loadR1 ?_ | refine SX.G.loadR2 ?_ | refine SX.G.load4 ?_ | refine SX.G.loadR4 ?_ | refine SX.G.load3 ?_ | refine SX.G.loadR3 ?_ | refine SX.G.loadOW ?_ | refine SX.G.loadO1 ?_)
          | (refine SX.Go1.isBin ?_; first | refine SX.G.lss ?_ | refine SX.G.eql ?_ | refine SX.G.neq ?_ | refine SX.G.gtr ?_ | refine SX.G.geq ?_ | refine SX.G.leq ?_ | refine SX.G.addN ?_ | refine SX.G.addNu ?_ | refine SX.G.subN ?_ | refine SX.G.subNu ?_ | refine SX.G.add ?_ | refine SX.G.sub ?_ | refine SX.G.mulN ?_ | refine SX.G.mulNu ?_ | refine SX.G.mul ?_ | refine SX.G.quoN ?_ | refine SX.G.quoNu ?_ | refine SX.G.quo ?_ | refine SX.G.remN ?_ | refine SX.G.remNu ?_ | refine SX.G.rem ?_ | refine SX.G.eqlT ?_ | refine SX.G.neqT ?_ | refine SX.G.eqlB ?_ | refine SX.G.neqB ?_ | refine SX.G.shr ?_ | refine SX.G.shl ?_ | refine SX.G.and ?_ | refine SX.G.addT ?_)
          | (refine SX.Go1.isUn ?_; first | refine SX.G.not ?_ | refine SX.G.neg ?_)
          | (refine SX.Go1.isField ?_; first | refine SX.G.fieldAddr ?_ | refine SX.G.fieldAddrR ?_)
          | (refine SX.Go1.isBuild ?_; first | refine SX.G.build2 ?_ | refine SX.G.build3 ?_ | refine SX.G.build4 ?_ | refine SX.G.build ?_)
          | (refine SX.Go1.isStore ?_; first | refine SX.G.store ?_ | refine SX.G.storeP ?_ | refine SX.G.storeO ?_)
          | (refine SX.Go1.isIx ?_; first | refine SX.G.indexAddrW ?_ | refine SX.G.indexAddrV ?_ | refine SX.G.indexAddrR ?_ | refine SX.G.indexAddrO ?_)
          | (refine SX.Go1.isBuildS ?_; first | refine SX.G.litOwn ?_ | refine SX.G.lit1 ?_)
          | (refine SX.Go1.isCall ?_; first | refine SX.G.minN ?_ | refine SX.G.maxN ?_ | refine SX.G.lenR ?_ | refine SX.G.lenN ?_ | refine SX.G.lenT ?_ | refine SX.G.lenS ?_ | refine SX.G.lenO ?_ | refine SX.G.appendW ?_ | refine SX.G.appendNilW ?_ | refine SX.G.callOwn ?_ | refine SX.G.call ?_)
          | refine SX.G.move ?_ | refine SX.G.assign ?_ | refine SX.G.extract ?_ | refine SX.G.box ?_ | refine SX.G.alloc ?_ | refine SX.G.pick ?_ | refine SX.R.pickT ?_ | refine SX.R.pickF ?_ | refine SX.G.pickB ?_ | refine SX.G.pickV ?_ | refine SX.G.makeN ?_ | refine SX.G.convN ?_ | refine SX.G.conv ?_ | refine SX.G.convBS ?_ | refine SX.G.sliceHiW ?_ | refine SX.G.sliceLoW ?_ | refine SX.G.sliceHiR ?_ | refine SX.G.sliceLoR ?_ | refine SX.G.sliceHiO ?_ | refine SX.G.sliceHiT ?_ | refine SX.G.sliceLoT ?_ | refine SX.G.sliceLHT ?_ | refine SX.G.indexT ?_ | refine SX.G.sliceHiS ?_ | refine SX.G.sliceLoS ?_ | refine SX.G.sliceLHS ?_ | refine SX.G.indexS ?_)
      | (refine SX.Reg.is ?_; first | refine SX.Reg.go ?_ | refine SX.R.runT ?_ | refine SX.R.runF ?_ | refine SX.R.skipT ?_ | refine SX.R.skipF ?_ | refine SX.R.skipU ?_)
)
    repeat (first
      | (refine SX.Go1.is ?_; first
          | (refine SX.Go1.isLoad ?_; first | refine SX.G.load2 ?_ | refine SX.G.load1 ?_ | refine SX.G.loadR1 ?_ | refine SX.G.loadR2 ?_ | refine SX.G.load4 ?_ | refine SX.G.loadR4 ?_ | refine SX.G.load3 ?_ | refine SX.G.loadR3 ?_ | refine SX.G.loadOW ?_ | refine SX.G.loadO1 ?_)
          | (refine SX.Go1.isBin ?_; first | refine SX.G.lss ?_ | refine SX.G.eql ?_ | refine SX.G.neq ?_ | refine SX.G.gtr ?_ | refine SX.G.geq ?_ | refine SX.G.leq ?_ | refine SX.G.addN ?_ | refine SX.G.addNu ?_ | refine SX.G.subN ?_ | refine SX.G.subNu ?_ | refine SX.G.add ?_ | refine SX.G.sub ?_ | refine SX.G.mulN ?_ | refine SX.G.mulNu ?_ | refine SX.G.mul ?_ | refine SX.G.quoN ?_ | refine SX.G.quoNu ?_ | refine SX.G.quo ?_ | refine SX.G.remN ?_ | refine SX.G.remNu ?_ | refine SX.G.rem ?_ | refine SX.G.eqlT ?_ | refine SX.G.neqT ?_ | refine SX.G.eqlB ?_ | refine SX.G.neqB ?_ | refine SX.G.shr ?_ | refine SX.G.shl ?_ | refine SX.G.and ?_ | refine SX.G.addT ?_)
          | (refine SX.Go1.isUn ?_; first | refine SX.G.not ?_ | refine SX.G.neg ?_)
          | (refine SX.Go1.isField ?_; first | refine SX.G.fieldAddr ?_ | refine SX.G.fieldAddrR ?_)
          | (refine SX.Go1.isBuild ?_; first | refine SX.G.build2 ?_ | refine SX.G.build3 ?_ | refine SX.G.build4 ?_ | refine SX.G.build ?_)
          | (refine SX.Go1.isStore ?_; first | refine SX.G.store ?_ | refine SX.G.storeP ?_ | refine SX.G.storeO ?_)
          | (refine SX.Go1.isIx ?_; first | refine SX.G.indexAddrW ?_ | refine SX.G.indexAddrV ?_ | refine SX.G.indexAddrR ?_ | refine SX.G.indexAddrO ?_)
          | (refine SX.Go1.isBuildS ?_; first | refine SX.G.litOwn ?_ | refine SX.G.lit1 ?_)
          | (refine SX.Go1.isCall ?_; first | refine SX.G.minN ?_ | refine SX.G.maxN ?_ | refine SX.G.lenR ?_ | refine SX.G.lenN ?_ | refine SX.G.lenT ?_ | refine SX.G.lenS ?_ | refine SX.G.lenO ?_ | refine SX.G.appendW ?_ | refine SX.G.appendNilW ?_ | refine SX.G.callOwn ?_ | refine SX.G.call ?_)
          | refine SX.G.move ?_ | refine SX.G.assign ?_ | refine SX.G.extract ?_ | refine SX.G.box ?_ | refine SX.G.alloc ?_ | refine SX.G.pick ?_ | refine SX.R.pickT ?_ | refine SX.R.pickF ?_ | refine SX.G.pickB ?_ | refine SX.G.pickV ?_ | refine SX.G.makeN ?_ | refine SX.G.convN ?_ | refine SX.G.conv ?_ | refine SX.G.convBS ?_ | refine SX.G.sliceHiW ?_ | refine SX.G.sliceLoW ?_ | refine SX.G.sliceHiR ?_ | refine SX.G.sliceLoR ?_ | refine SX.G.sliceHiO ?_ | refine SX.G.sliceHiT ?_ | refine SX.G.sliceLoT ?_ | refine SX.G.sliceLHT ?_ | refine SX.G.indexT ?_ | refine SX.G.sliceHiS ?_ | refine SX.G.sliceLoS ?_ | refine SX.G.sliceLHS ?_ | refine SX.G.indexS ?_)
      | (refine SX.Reg.is ?_; first | refine SX.Reg.go ?_ | refine SX.R.runT ?_ | refine SX.R.runF ?_ | refine SX.R.skipT ?_ | refine SX.R.skipF ?_ | refine SX.R.skipU ?_)
)
    exact h.out) : p := k ⟨h⟩
end SX
