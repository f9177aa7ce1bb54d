import Derived.Test.YtlojipipibebaaaDoorM1
import Derived.Laws.BytesString
/- A symbolic run at one word; loops and returns, their side goals left to tactics. No program in sight. -/
set_option linter.unusedVariables false
set_option linter.unusedSimpArgs false
namespace SX
open Go Go.RowKit
section

end
/-- The run, as far as it goes. -/
structure Held (q : Prop) : Prop where
  out : q
theorem go {p q : Prop} (h : q) (k : Held q → p := by
    intro h
    (first
      | (refine SX.Go1.is ?_; first
          | (refine SX.Go1.isLoad ?_; first | refine SX.G.load2 ?_ | refine SX.G.load1 ?_ | refine SX.G.loadR1 ?_ | refine SX.G.loadR2 ?_ | refine SX.G.load4 ?_ | refine SX.G.loadR4 ?_ | refine SX.G.load3 ?_ | refine SX.G.loadR3 ?_ | refine SX.G.loadO1 ?_)
          | (refine SX.Go1.isBin ?_; first | refine SX.G.lss ?_ | refine SX.G.eql ?_ | refine SX.G.neq ?_ | refine SX.G.gtr ?_ | refine SX.G.geq ?_ | refine SX.G.leq ?_ | refine SX.G.addN ?_ | refine SX.G.addNu ?_ | refine SX.G.subN ?_ | refine SX.G.subNu ?_ | refine SX.G.add ?_ | refine SX.G.sub ?_ | refine SX.G.mulN ?_ | refine SX.G.mulNu ?_ | refine SX.G.mul ?_ | refine SX.G.quoN ?_ | refine SX.G.quoNu ?_ | refine SX.G.quo ?_ | refine SX.G.remN ?_ | refine SX.G.remNu ?_ | refine SX.G.rem ?_ | refine SX.G.eqlT ?_ | refine SX.G.neqT ?_ | refine SX.G.eqlB ?_ | refine SX.G.neqB ?_ | refine SX.G.shr ?_ | refine SX.G.shl ?_ | refine SX.G.and ?_)
          | (refine SX.Go1.isUn ?_; first | refine SX.G.not ?_ | refine SX.G.neg ?_)
          | (refine SX.Go1.isField ?_; first | refine SX.G.fieldAddr ?_ | refine SX.G.fieldAddrR ?_)
          | (refine SX.Go1.isBuild ?_; first | refine SX.G.build2 ?_ | refine SX.G.build3 ?_ | refine SX.G.build4 ?_ | refine SX.G.build ?_)
          | (refine SX.Go1.isStore ?_; first | refine SX.G.store ?_ | refine SX.G.storeO ?_)
          | (refine SX.Go1.isIx ?_; first | refine SX.G.indexAddrW ?_ | refine SX.G.indexAddrV ?_ | refine SX.G.indexAddrR ?_ | refine SX.G.indexAddrO ?_)
          | (refine SX.Go1.isBuildS ?_; first | refine SX.G.lit1 ?_)
          | (refine SX.Go1.isCall ?_; first | refine SX.G.minN ?_ | refine SX.G.maxN ?_ | refine SX.G.lenR ?_ | refine SX.G.lenN ?_ | refine SX.G.lenT ?_ | refine SX.G.lenS ?_ | refine SX.G.lenO ?_ | refine SX.G.appendW ?_ | refine SX.G.appendNilW ?_ | refine SX.G.call ?_)
          | refine SX.G.move ?_ | refine SX.G.assign ?_ | refine SX.G.extract ?_ | refine SX.G.box ?_ | refine SX.G.alloc ?_ | refine SX.G.pick ?_ | refine SX.R.pickT ?_ | refine SX.R.pickF ?_ | refine SX.G.pickB ?_ | refine SX.G.pickV ?_ | refine SX.G.conv ?_ | refine SX.G.sliceHiW ?_ | refine SX.G.sliceLoW ?_ | refine SX.G.sliceHiR ?_ | refine SX.G.sliceLoR ?_ | refine SX.G.sliceHiO ?_ | refine SX.G.sliceHiT ?_ | refine SX.G.sliceLoT ?_ | refine SX.G.sliceLHT ?_ | refine SX.G.indexT ?_ | refine SX.G.sliceHiS ?_ | refine SX.G.sliceLoS ?_ | refine SX.G.sliceLHS ?_ | refine SX.G.indexS ?_)
      | (refine SX.Reg.is ?_; first | refine SX.Reg.go ?_ | refine SX.R.runT ?_ | refine SX.R.runF ?_ | refine SX.R.skipT ?_ | refine SX.R.skipF ?_ | refine SX.R.skipU ?_ | refine SX.Reg.nil ⟨by kernel_rfl, ?_⟩ | refine SX.Reg.nil ?_)
      | (refine SX.WP.is ?_; first | refine SX.WP.seq ?_ | refine SX.WP.regionL ?_ | refine SX.WP.regionDL (by kernel_rfl) ?_ | refine SX.WP.block ?_ | refine SX.WP.skip ?_ | refine SX.WP.exit ?_ | refine SX.WP.ret ?_ | refine SX.WP.label ?_ | refine SX.W.condT ?_ | refine SX.W.condF ?_)
      | refine SX.thenN ?_ | refine SX.thenE ?_ | refine SX.thenR ?_ | refine SX.inBlkN ?_ | refine SX.inBlkR ?_ | refine SX.inBlkE ?_ | refine SX.inBlkO rfl ?_ | refine SX.retR ?_ | refine SX.retN ?_ | refine SX.retFR ?_ | refine SX.retFN ?_)
    repeat (first
      | (refine SX.Go1.is ?_; first
          | (refine SX.Go1.isLoad ?_; first | refine SX.G.load2 ?_ | refine SX.G.load1 ?_ | refine SX.G.loadR1 ?_ | refine SX.G.loadR2 ?_ | refine SX.G.load4 ?_ | refine SX.G.loadR4 ?_ | refine SX.G.load3 ?_ | refine SX.G.loadR3 ?_ | refine SX.G.loadO1 ?_)
          | (refine SX.Go1.isBin ?_; first | refine SX.G.lss ?_ | refine SX.G.eql ?_ | refine SX.G.neq ?_ | refine SX.G.gtr ?_ | refine SX.G.geq ?_ | refine SX.G.leq ?_ | refine SX.G.addN ?_ | refine SX.G.addNu ?_ | refine SX.G.subN ?_ | refine SX.G.subNu ?_ | refine SX.G.add ?_ | refine SX.G.sub ?_ | refine SX.G.mulN ?_ | refine SX.G.mulNu ?_ | refine SX.G.mul ?_ | refine SX.G.quoN ?_ | refine SX.G.quoNu ?_ | refine SX.G.quo ?_ | refine SX.G.remN ?_ | refine SX.G.remNu ?_ | refine SX.G.rem ?_ | refine SX.G.eqlT ?_ | refine SX.G.neqT ?_ | refine SX.G.eqlB ?_ | refine SX.G.neqB ?_ | refine SX.G.shr ?_ | refine SX.G.shl ?_ | refine SX.G.and ?_)
          | (refine SX.Go1.isUn ?_; first | refine SX.G.not ?_ | refine SX.G.neg ?_)
          | (refine SX.Go1.isField ?_; first | refine SX.G.fieldAddr ?_ | refine SX.G.fieldAddrR ?_)
          | (refine SX.Go1.isBuild ?_; first | refine SX.G.build2 ?_ | refine SX.G.build3 ?_ | refine SX.G.build4 ?_ | refine SX.G.build ?_)
          | (refine SX.Go1.isStore ?_; first | refine SX.G.store ?_ | refine SX.G.storeO ?_)
          | (refine SX.Go1.isIx ?_; first | refine SX.G.indexAddrW ?_ | refine SX.G.indexAddrV ?_ | refine SX.G.indexAddrR ?_ | refine SX.G.indexAddrO ?_)
          | (refine SX.Go1.isBuildS ?_; first | refine SX.G.lit1 ?_)
          | (refine SX.Go1.isCall ?_; first | refine SX.G.minN ?_ | refine SX.G.maxN ?_ | refine SX.G.lenR ?_ | refine SX.G.lenN ?_ | refine SX.G.lenT ?_ | refine SX.G.lenS ?_ | refine SX.G.lenO ?_ | refine SX.G.appendW ?_ | refine SX.G.appendNilW ?_ | refine SX.G.call ?_)
          | refine SX.G.move ?_ | refine SX.G.assign ?_ | refine SX.G.extract ?_ | refine SX.G.box ?_ | refine SX.G.alloc ?_ | refine SX.G.pick ?_ | refine SX.R.pickT ?_ | refine SX.R.pickF ?_ | refine SX.G.pickB ?_ | refine SX.G.pickV ?_ | refine SX.G.conv ?_ | refine SX.G.sliceHiW ?_ | refine SX.G.sliceLoW ?_ | refine SX.G.sliceHiR ?_ | refine SX.G.sliceLoR ?_ | refine SX.G.sliceHiO ?_ | refine SX.G.sliceHiT ?_ | refine SX.G.sliceLoT ?_ | refine SX.G.sliceLHT ?_ | refine SX.G.indexT ?_ | refine SX.G.sliceHiS ?_ | refine SX.G.sliceLoS ?_ | refine SX.G.sliceLHS ?_ | refine SX.G.indexS ?_)
      | (refine SX.Reg.is ?_; first | refine SX.Reg.go ?_ | refine SX.R.runT ?_ | refine SX.R.runF ?_ | refine SX.R.skipT ?_ | refine SX.R.skipF ?_ | refine SX.R.skipU ?_ | refine SX.Reg.nil ⟨by kernel_rfl, ?_⟩ | refine SX.Reg.nil ?_)
      | (refine SX.WP.is ?_; first | refine SX.WP.seq ?_ | refine SX.WP.regionL ?_ | refine SX.WP.regionDL (by kernel_rfl) ?_ | refine SX.WP.block ?_ | refine SX.WP.skip ?_ | refine SX.WP.exit ?_ | refine SX.WP.ret ?_ | refine SX.WP.label ?_ | refine SX.W.condT ?_ | refine SX.W.condF ?_)
      | refine SX.thenN ?_ | refine SX.thenE ?_ | refine SX.thenR ?_ | refine SX.inBlkN ?_ | refine SX.inBlkR ?_ | refine SX.inBlkE ?_ | refine SX.inBlkO rfl ?_ | refine SX.retR ?_ | refine SX.retN ?_ | refine SX.retFR ?_ | refine SX.retFN ?_)
    exact h.out) : p := k ⟨h⟩
section
variable {P : Program} {C : Ctx} {st : St}
variable {ops rest : List Oper} {acc : List (List Nat × List Nat)} {K : List (List Nat × List Nat) → St → Prop} {dst : Option Tmp} {op : Op} {ty : TypeId} {pos : String} {af : Array Edge}
/-- A guard that isn't decided. -/
theorem R.ite {j u : Nat} {b : Bool} {p : Prop} [Decidable p] (h1 : p → Reg P C ops (⟨dst, op, ty, pos, af, some (j, b)⟩ :: rest) st acc K) (h2 : ¬ p → Reg P C ops (⟨dst, op, ty, pos, af, some (j, b)⟩ :: rest) st acc K)
    (ht : (ops[j]?).bind (·.dst) = some u := by rfl) (hv : st.tm u = some (.v (.bool (decide p))) := by rfl) : Reg P C ops (⟨dst, op, ty, pos, af, some (j, b)⟩ :: rest) st acc K :=
  (Decidable.em p).elim h1 h2
theorem R.iteN {j u : Nat} {b : Bool} {p : Prop} [Decidable p] (h1 : p → Reg P C ops (⟨dst, op, ty, pos, af, some (j, b)⟩ :: rest) st acc K) (h2 : ¬ p → Reg P C ops (⟨dst, op, ty, pos, af, some (j, b)⟩ :: rest) st acc K)
    (ht : (ops[j]?).bind (·.dst) = some u := by rfl) (hv : st.tm u = some (.v (.bool (!decide p))) := by rfl) : Reg P C ops (⟨dst, op, ty, pos, af, some (j, b)⟩ :: rest) st acc K :=
  (Decidable.em p).elim h1 h2
theorem R.iteB {j u : Nat} {b b' : Bool} (h1 : b' = true → Reg P C ops (⟨dst, op, ty, pos, af, some (j, b)⟩ :: rest) st acc K) (h2 : b' = false → Reg P C ops (⟨dst, op, ty, pos, af, some (j, b)⟩ :: rest) st acc K)
    (ht : (ops[j]?).bind (·.dst) = some u := by rfl) (hv : st.tm u = some (.v (.bool b')) := by rfl) : Reg P C ops (⟨dst, op, ty, pos, af, some (j, b)⟩ :: rest) st acc K := by
  cases b'
  · exact h2 rfl
  · exact h1 rfl
end
section
variable {P : Program} {C : Ctx} {st : St} {Q : Exit → St → Prop} {c : Code}
theorem St.lt0 {l : List (Nat × AV)} {m : List (Nat × Ent)} (hfix : ∀ b, C.fix b = true → lk ([] : List (Nat × Option Nat)) b = none ∧ (lk m b).isSome = true) (ht : TmTo st [] l) (hm : HpTo st [] m) (hti : tidy [] l m = true) : St.le C st (mkSt l m) := St.le_to _ hfix ht hm hti
theorem St.ltn {l : List (Nat × AV)} {m : List (Nat × Ent)} (hfix : ∀ b, C.fix b = true → lk ([(100, none)] : List (Nat × Option Nat)) b = none ∧ (lk m b).isSome = true) (ht : TmTo st [(100, none)] l) (hm : HpTo st [(100, none)] m) (hti : tidy [(100, none)] l m = true) : St.le C st (mkSt l m) := St.le_to _ hfix ht hm hti
theorem St.lt1 {o : Nat} {l : List (Nat × AV)} {m : List (Nat × Ent)} (hfix : ∀ b, C.fix b = true → lk ([(100, some o)] : List (Nat × Option Nat)) b = none ∧ (lk m b).isSome = true) (ht : TmTo st [(100, some o)] l) (hm : HpTo st [(100, some o)] m) (hti : tidy [(100, some o)] l m = true) : St.le C st (mkSt l m) := St.le_to _ hfix ht hm hti
theorem St.ltnn {l : List (Nat × AV)} {m : List (Nat × Ent)} (hfix : ∀ b, C.fix b = true → lk ([(100, none), (101, none)] : List (Nat × Option Nat)) b = none ∧ (lk m b).isSome = true) (ht : TmTo st [(100, none), (101, none)] l) (hm : HpTo st [(100, none), (101, none)] m) (hti : tidy [(100, none), (101, none)] l m = true) : St.le C st (mkSt l m) := St.le_to _ hfix ht hm hti
theorem St.lt11 {o o2 : Nat} {l : List (Nat × AV)} {m : List (Nat × Ent)} (hfix : ∀ b, C.fix b = true → lk ([(100, some o), (101, some o2)] : List (Nat × Option Nat)) b = none ∧ (lk m b).isSome = true) (ht : TmTo st [(100, some o), (101, some o2)] l) (hm : HpTo st [(100, some o), (101, some o2)] m) (hti : tidy [(100, some o), (101, some o2)] l m = true) : St.le C st (mkSt l m) := St.le_to _ hfix ht hm hti
theorem St.ltn1 {o : Nat} {l : List (Nat × AV)} {m : List (Nat × Ent)} (hfix : ∀ b, C.fix b = true → lk ([(100, none), (101, some o)] : List (Nat × Option Nat)) b = none ∧ (lk m b).isSome = true) (ht : TmTo st [(100, none), (101, some o)] l) (hm : HpTo st [(100, none), (101, some o)] m) (hti : tidy [(100, none), (101, some o)] l m = true) : St.le C st (mkSt l m) := St.le_to _ hfix ht hm hti
theorem St.lt1n {o : Nat} {l : List (Nat × AV)} {m : List (Nat × Ent)} (hfix : ∀ b, C.fix b = true → lk ([(100, some o), (101, none)] : List (Nat × Option Nat)) b = none ∧ (lk m b).isSome = true) (ht : TmTo st [(100, some o), (101, none)] l) (hm : HpTo st [(100, some o), (101, none)] m) (hti : tidy [(100, some o), (101, none)] l m = true) : St.le C st (mkSt l m) := St.le_to _ hfix ht hm hti
theorem AVto.int {ρ : List (Nat × Option Nat)} {k : IntKind} {z z' : Int} (e : z = z') : AVto ρ (.v (.int k z)) (.v (.int k z')) := AVto.eq (by rw [e]) rfl
theorem AVto.str {ρ : List (Nat × Option Nat)} {l l' : List UInt8} (e : l = l') : AVto ρ (.v (str l)) (.v (SX.str l')) := AVto.eq (by rw [e]) rfl
theorem AVto.bool {ρ : List (Nat × Option Nat)} {b b' : Bool} (e : b = b') : AVto ρ (.v (.bool b)) (.v (.bool b')) := AVto.eq (by rw [e]) rfl
theorem WP.monoC {Q' : Exit → St → Prop} (h : WP P C c st Q) (k : ∀ e s, Q e s → ∃ s', St.le C s s' ∧ Q' e s') : WP P C c st Q' :=
  fun a w hs => wp_mono (h a w hs) fun e a w ⟨s, hq, hs⟩ => by
    obtain ⟨s', hl, hq'⟩ := k e s hq
    exact ⟨s', hq', hl a w hs⟩
/-- What a function comes to, in a state or in one that says less. -/
def RetF (C : Ctx) (P : Program) (rs : List ResultVar) (out : Out) (st : St) : Prop := ∃ st', St.le C st st' ∧ RetOK P rs out st'
def retF (C : Ctx) (P : Program) (rs : List ResultVar) (out : Out) : Exit → St → Prop
  | .ret, st => RetF C P rs out st
  | .normal, st => RetF C P rs out st
  | _, _ => False
theorem St.le.refl (C : Ctx) (st : St) : St.le C st st := fun _ _ h => h
theorem WP.retF {rs : List ResultVar} {out : Out} (h : WP P C c st (retF C P rs out)) : WP P C c st (retQ P rs out) :=
  h.monoC fun e s hq => match e, hq with
    | .ret, ⟨s', hl, hr⟩ => ⟨s', hl, hr⟩
    | .normal, ⟨s', hl, hr⟩ => ⟨s', hl, hr⟩
theorem retFR {rs : List ResultVar} {out : Out} (h : RetF C P rs out st) : retF C P rs out .ret st := h
theorem retFN {rs : List ResultVar} {out : Out} (h : RetF C P rs out st) : retF C P rs out .normal st := h
theorem RetF.ok {rs : List ResultVar} {out : Out} (h : RetOK P rs out st) : RetF C P rs out st := ⟨st, St.le.refl _ _, h⟩
theorem RetF.frz {rs : List ResultVar} {out : Out} (b : Nat) {size n : Nat} {t : TypeId} {cells : List CA} (h : RetF C P rs out (st.frz b size n cells)) (hB : ∀ k, ¬ C.B k := by assumption) (hb : st.hp b = .ent (.row t size n cells) := by rfl) : RetF C P rs out st := by
  obtain ⟨s', hl, hr⟩ := h
  exact ⟨s', fun a w hs => hl a w (St.le_frz hB hb a w hs), hr⟩
theorem AV0.imp.of_eq {x y : AV0} (h : x = y) : x.imp y := h ▸ AV0.imp.refl x
theorem imp_nil {size : Nat} : AV0.imp (.one (.c (.val (.slice none 0 0)))) (.one (.c (.sat (sliceR size 0 [])))) := fun E S w v h => by
  rw [show v = _ from h]
  exact sliceR_iff.2 ⟨none, 0, rfl, Nat.le_refl _, by simp [maxLen], fun _ => rfl, by simp, fun i c hc => by simp at hc⟩
theorem PureOK.fnF {f : FuncId} {fn : Func} {c : Code} {args : List AV} {r : AV} {nt : Nat} {rs : List ResultVar} (hf : P.funcs[f]? = some fn) (hres : fn.results = rs.toArray) (hnt : fn.ntmps = nt) (hb : fn.body = some c) (hn : (fn.name == "runtime.NumGoroutine") = false) (hna : Nat.ble args.length nt = true)
    (haid : ∀ v ∈ args, v.ids = []) (hr : r.ids = []) (h : ∀ (w0 : World) (T B : Nat → Prop) (E0 : Env), (∀ k, ¬ B k) → WP P ⟨w0, T, B, nt, E0, fun _ => false⟩ c ⟨fun t => args[t]?, fun _ => .free⟩ (SX.retF ⟨w0, T, B, nt, E0, fun _ => false⟩ P rs ⟨r, []⟩)) : PureOK P f args r :=
  PureOK.fn hf hres hnt hb hn hna haid hr fun w0 T B E0 hB => WP.retF (h w0 T B E0 hB)
theorem ret1 {t : Tmp} {x y : AV0} (e : x = y) (h : st.tm t = some (.it x) := by rfl) : RetF C P [.tmp t] ⟨.it y, []⟩ st := .ok (RetOK.eq1 (ResOK.tmp h) e)
theorem ret1' {t : Tmp} {x y : AV0} (e : x.imp y) (h : st.tm t = some (.it x) := by rfl) : RetF C P [.tmp t] ⟨.it y, []⟩ st := .ok (RetOK.mk1 ((ResOK.tmp h).imp e))
theorem retI {t : Tmp} {k : IntKind} {z z' : Int} (e : z = z') (h : st.tm t = some (.v (.int k z)) := by rfl) : RetF C P [.tmp t] ⟨.v (.int k z'), []⟩ st := .ok (RetOK.eq1 (ResOK.tmp h) (by rw [e]))
theorem retB {t : Tmp} {b b' : Bool} (e : b = b') (h : st.tm t = some (.v (.bool b)) := by rfl) : RetF C P [.tmp t] ⟨.v (.bool b'), []⟩ st := .ok (RetOK.eq1 (ResOK.tmp h) (by rw [e]))
theorem retS {t : Tmp} {l l' : List UInt8} (e : l = l') (h : st.tm t = some (.v (str l)) := by rfl) : RetF C P [.tmp t] ⟨.v (SX.str l'), []⟩ st := .ok (RetOK.eq1 (ResOK.tmp h) (by rw [e]))
theorem retA {r : ResultVar} {x y : AV0} (h : ResOK P st r x) (e : x = y) : RetF C P [r] ⟨.it y, []⟩ st := .ok (RetOK.eq1 h e)
theorem ret2 {t t' : Tmp} {x y x' y' : AV0} (e : x = y) (e' : x' = y') (h : st.tm t = some (.it x) := by rfl) (h' : st.tm t' = some (.it x') := by rfl) : RetF C P [.tmp t, .tmp t'] ⟨.tup [y, y'], []⟩ st := .ok (RetOK.eq2 (ResOK.tmp h) (ResOK.tmp h') e e')
theorem ret2' {r r' : ResultVar} {x y x' y' : AV0} (h : ResOK P st r x) (h' : ResOK P st r' x') (e : x.imp y) (e' : x'.imp y') : RetF C P [r, r'] ⟨.tup [y, y'], []⟩ st := .ok (RetOK.mk2 (h.imp e) (h'.imp e'))
theorem ret3 {t t' t2 : Tmp} {x y x' y' x2 y2 : AV0} (e : x = y) (e' : x' = y') (e2 : x2 = y2) (h : st.tm t = some (.it x) := by rfl) (h' : st.tm t' = some (.it x') := by rfl) (h2 : st.tm t2 = some (.it x2) := by rfl) : RetF C P [.tmp t, .tmp t', .tmp t2] ⟨.tup [y, y', y2], []⟩ st := .ok (RetOK.eq3 (ResOK.tmp h) (ResOK.tmp h') (ResOK.tmp h2) e e' e2)
theorem ret3' {r r' r2 : ResultVar} {x y x' y' x2 y2 : AV0} (h : ResOK P st r x) (h' : ResOK P st r' x') (h2 : ResOK P st r2 x2) (e : x.imp y) (e' : x'.imp y') (e2 : x2.imp y2) : RetF C P [r, r', r2] ⟨.tup [y, y', y2], []⟩ st := .ok (RetOK.mk3 (h.imp e) (h'.imp e') (h2.imp e2))
theorem ci {k : IntKind} {z z' : Int} (e : z = z') : AV0.one (.c (.val (.int k z))) = .one (.c (.val (.int k z'))) := by rw [e]
theorem cb {b b' : Bool} (e : b = b') : AV0.one (.c (.val (.bool b))) = .one (.c (.val (.bool b'))) := by rw [e]

theorem W.loop {α : Type} (φ : α → Prop) (I : α → List (Nat × AV)) (H : α → List (Nat × Ent)) (μ : α → Nat) (a0 : α) (h0 : φ a0)
    (round : ∀ a, φ a → WP P C c (mkSt (I a) (H a)) (thenK (fun s => ∃ a', φ a' ∧ St.le C s (mkSt (I a') (H a')) ∧ μ a' < μ a) Q))
    (hle : St.le C st (mkSt (I a0) (H a0)) := by first | (apply SX.St.lt0; (· (intro b h; first | (cases h; done) | exact ⟨rfl, h⟩ | exact SX.fixIs h)); (· (repeat (first | exact trivial | refine ⟨⟨_, rfl, SX.AVto.same rfl⟩, ?_⟩ | refine ⟨⟨_, rfl, SX.AVto.own rfl⟩, ?_⟩ | refine ⟨⟨_, rfl, SX.AVto.nil rfl⟩, ?_⟩ | refine ⟨⟨_, rfl, SX.AVto.int (by first | (with_reducible assumption) | omega | (simp; done) | assumption)⟩, ?_⟩ | refine ⟨⟨_, rfl, SX.AVto.str (by first | (with_reducible assumption) | (simp; done) | assumption)⟩, ?_⟩ | refine ⟨⟨_, rfl, SX.AVto.bool (by first | (with_reducible assumption) | (simp; done) | assumption)⟩, ?_⟩ | refine ⟨⟨_, rfl, SX.AVto.eq (by first | (with_reducible assumption) | (simp [*]; done)) rfl⟩, ?_⟩))); (· (repeat (first | exact trivial | refine ⟨SX.EntTo.row rfl rfl rfl rfl, ?_⟩ | refine ⟨SX.EntTo.row rfl rfl (by first | rfl | (simp; done)) (by first | rfl | assumption | exact SX.flat_snoc rfl | exact SX.flat_one rfl | (simp; done)), ?_⟩ | refine ⟨SX.EntTo.nilRow rfl, ?_⟩ | refine ⟨SX.EntTo.eq rfl rfl rfl, ?_⟩ | refine ⟨SX.EntTo.same rfl rfl, ?_⟩))); (· rfl)) | (apply SX.St.ltn; (· (intro b h; first | (cases h; done) | exact ⟨rfl, h⟩ | exact SX.fixIs h)); (· (repeat (first | exact trivial | refine ⟨⟨_, rfl, SX.AVto.same rfl⟩, ?_⟩ | refine ⟨⟨_, rfl, SX.AVto.own rfl⟩, ?_⟩ | refine ⟨⟨_, rfl, SX.AVto.nil rfl⟩, ?_⟩ | refine ⟨⟨_, rfl, SX.AVto.int (by first | (with_reducible assumption) | omega | (simp; done) | assumption)⟩, ?_⟩ | refine ⟨⟨_, rfl, SX.AVto.str (by first | (with_reducible assumption) | (simp; done) | assumption)⟩, ?_⟩ | refine ⟨⟨_, rfl, SX.AVto.bool (by first | (with_reducible assumption) | (simp; done) | assumption)⟩, ?_⟩ | refine ⟨⟨_, rfl, SX.AVto.eq (by first | (with_reducible assumption) | (simp [*]; done)) rfl⟩, ?_⟩))); (· (repeat (first | exact trivial | refine ⟨SX.EntTo.row rfl rfl rfl rfl, ?_⟩ | refine ⟨SX.EntTo.row rfl rfl (by first | rfl | (simp; done)) (by first | rfl | assumption | exact SX.flat_snoc rfl | exact SX.flat_one rfl | (simp; done)), ?_⟩ | refine ⟨SX.EntTo.nilRow rfl, ?_⟩ | refine ⟨SX.EntTo.eq rfl rfl rfl, ?_⟩ | refine ⟨SX.EntTo.same rfl rfl, ?_⟩))); (· rfl)) | (apply SX.St.lt1; (· (intro b h; first | (cases h; done) | exact ⟨rfl, h⟩ | exact SX.fixIs h)); (· (repeat (first | exact trivial | refine ⟨⟨_, rfl, SX.AVto.same rfl⟩, ?_⟩ | refine ⟨⟨_, rfl, SX.AVto.own rfl⟩, ?_⟩ | refine ⟨⟨_, rfl, SX.AVto.nil rfl⟩, ?_⟩ | refine ⟨⟨_, rfl, SX.AVto.int (by first | (with_reducible assumption) | omega | (simp; done) | assumption)⟩, ?_⟩ | refine ⟨⟨_, rfl, SX.AVto.str (by first | (with_reducible assumption) | (simp; done) | assumption)⟩, ?_⟩ | refine ⟨⟨_, rfl, SX.AVto.bool (by first | (with_reducible assumption) | (simp; done) | assumption)⟩, ?_⟩ | refine ⟨⟨_, rfl, SX.AVto.eq (by first | (with_reducible assumption) | (simp [*]; done)) rfl⟩, ?_⟩))); (· (repeat (first | exact trivial | refine ⟨SX.EntTo.row rfl rfl rfl rfl, ?_⟩ | refine ⟨SX.EntTo.row rfl rfl (by first | rfl | (simp; done)) (by first | rfl | assumption | exact SX.flat_snoc rfl | exact SX.flat_one rfl | (simp; done)), ?_⟩ | refine ⟨SX.EntTo.nilRow rfl, ?_⟩ | refine ⟨SX.EntTo.eq rfl rfl rfl, ?_⟩ | refine ⟨SX.EntTo.same rfl rfl, ?_⟩))); (· rfl)) | (apply SX.St.ltnn; (· (intro b h; first | (cases h; done) | exact ⟨rfl, h⟩ | exact SX.fixIs h)); (· (repeat (first | exact trivial | refine ⟨⟨_, rfl, SX.AVto.same rfl⟩, ?_⟩ | refine ⟨⟨_, rfl, SX.AVto.own rfl⟩, ?_⟩ | refine ⟨⟨_, rfl, SX.AVto.nil rfl⟩, ?_⟩ | refine ⟨⟨_, rfl, SX.AVto.int (by first | (with_reducible assumption) | omega | (simp; done) | assumption)⟩, ?_⟩ | refine ⟨⟨_, rfl, SX.AVto.str (by first | (with_reducible assumption) | (simp; done) | assumption)⟩, ?_⟩ | refine ⟨⟨_, rfl, SX.AVto.bool (by first | (with_reducible assumption) | (simp; done) | assumption)⟩, ?_⟩ | refine ⟨⟨_, rfl, SX.AVto.eq (by first | (with_reducible assumption) | (simp [*]; done)) rfl⟩, ?_⟩))); (· (repeat (first | exact trivial | refine ⟨SX.EntTo.row rfl rfl rfl rfl, ?_⟩ | refine ⟨SX.EntTo.row rfl rfl (by first | rfl | (simp; done)) (by first | rfl | assumption | exact SX.flat_snoc rfl | exact SX.flat_one rfl | (simp; done)), ?_⟩ | refine ⟨SX.EntTo.nilRow rfl, ?_⟩ | refine ⟨SX.EntTo.eq rfl rfl rfl, ?_⟩ | refine ⟨SX.EntTo.same rfl rfl, ?_⟩))); (· rfl)) | (apply SX.St.lt11; (· (intro b h; first | (cases h; done) | exact ⟨rfl, h⟩ | exact SX.fixIs h)); (· (repeat (first | exact trivial | refine ⟨⟨_, rfl, SX.AVto.same rfl⟩, ?_⟩ | refine ⟨⟨_, rfl, SX.AVto.own rfl⟩, ?_⟩ | refine ⟨⟨_, rfl, SX.AVto.nil rfl⟩, ?_⟩ | refine ⟨⟨_, rfl, SX.AVto.int (by first | (with_reducible assumption) | omega | (simp; done) | assumption)⟩, ?_⟩ | refine ⟨⟨_, rfl, SX.AVto.str (by first | (with_reducible assumption) | (simp; done) | assumption)⟩, ?_⟩ | refine ⟨⟨_, rfl, SX.AVto.bool (by first | (with_reducible assumption) | (simp; done) | assumption)⟩, ?_⟩ | refine ⟨⟨_, rfl, SX.AVto.eq (by first | (with_reducible assumption) | (simp [*]; done)) rfl⟩, ?_⟩))); (· (repeat (first | exact trivial | refine ⟨SX.EntTo.row rfl rfl rfl rfl, ?_⟩ | refine ⟨SX.EntTo.row rfl rfl (by first | rfl | (simp; done)) (by first | rfl | assumption | exact SX.flat_snoc rfl | exact SX.flat_one rfl | (simp; done)), ?_⟩ | refine ⟨SX.EntTo.nilRow rfl, ?_⟩ | refine ⟨SX.EntTo.eq rfl rfl rfl, ?_⟩ | refine ⟨SX.EntTo.same rfl rfl, ?_⟩))); (· rfl)) | (apply SX.St.ltn1; (· (intro b h; first | (cases h; done) | exact ⟨rfl, h⟩ | exact SX.fixIs h)); (· (repeat (first | exact trivial | refine ⟨⟨_, rfl, SX.AVto.same rfl⟩, ?_⟩ | refine ⟨⟨_, rfl, SX.AVto.own rfl⟩, ?_⟩ | refine ⟨⟨_, rfl, SX.AVto.nil rfl⟩, ?_⟩ | refine ⟨⟨_, rfl, SX.AVto.int (by first | (with_reducible assumption) | omega | (simp; done) | assumption)⟩, ?_⟩ | refine ⟨⟨_, rfl, SX.AVto.str (by first | (with_reducible assumption) | (simp; done) | assumption)⟩, ?_⟩ | refine ⟨⟨_, rfl, SX.AVto.bool (by first | (with_reducible assumption) | (simp; done) | assumption)⟩, ?_⟩ | refine ⟨⟨_, rfl, SX.AVto.eq (by first | (with_reducible assumption) | (simp [*]; done)) rfl⟩, ?_⟩))); (· (repeat (first | exact trivial | refine ⟨SX.EntTo.row rfl rfl rfl rfl, ?_⟩ | refine ⟨SX.EntTo.row rfl rfl (by first | rfl | (simp; done)) (by first | rfl | assumption | exact SX.flat_snoc rfl | exact SX.flat_one rfl | (simp; done)), ?_⟩ | refine ⟨SX.EntTo.nilRow rfl, ?_⟩ | refine ⟨SX.EntTo.eq rfl rfl rfl, ?_⟩ | refine ⟨SX.EntTo.same rfl rfl, ?_⟩))); (· rfl)) | (apply SX.St.lt1n; (· (intro b h; first | (cases h; done) | exact ⟨rfl, h⟩ | exact SX.fixIs h)); (· (repeat (first | exact trivial | refine ⟨⟨_, rfl, SX.AVto.same rfl⟩, ?_⟩ | refine ⟨⟨_, rfl, SX.AVto.own rfl⟩, ?_⟩ | refine ⟨⟨_, rfl, SX.AVto.nil rfl⟩, ?_⟩ | refine ⟨⟨_, rfl, SX.AVto.int (by first | (with_reducible assumption) | omega | (simp; done) | assumption)⟩, ?_⟩ | refine ⟨⟨_, rfl, SX.AVto.str (by first | (with_reducible assumption) | (simp; done) | assumption)⟩, ?_⟩ | refine ⟨⟨_, rfl, SX.AVto.bool (by first | (with_reducible assumption) | (simp; done) | assumption)⟩, ?_⟩ | refine ⟨⟨_, rfl, SX.AVto.eq (by first | (with_reducible assumption) | (simp [*]; done)) rfl⟩, ?_⟩))); (· (repeat (first | exact trivial | refine ⟨SX.EntTo.row rfl rfl rfl rfl, ?_⟩ | refine ⟨SX.EntTo.row rfl rfl (by first | rfl | (simp; done)) (by first | rfl | assumption | exact SX.flat_snoc rfl | exact SX.flat_one rfl | (simp; done)), ?_⟩ | refine ⟨SX.EntTo.nilRow rfl, ?_⟩ | refine ⟨SX.EntTo.eq rfl rfl rfl, ?_⟩ | refine ⟨SX.EntTo.same rfl rfl, ?_⟩))); (· rfl))) : WP P C (.loop c) st Q :=
  WP.loop (ι := {p : α // φ p}) (fun q => match q with | ⟨p, _⟩ => mkSt (I p) (H p)) (fun q => match q with | ⟨p, _⟩ => μ p) ⟨a0, h0⟩ hle (fun ⟨p, hp⟩ => (round p hp).mono fun e s h => by
    cases e with
    | normal =>
      obtain ⟨a', hφ, hl, hm⟩ := h
      exact ⟨⟨a', hφ⟩, hl, hm⟩
    | _ => exact h)
theorem W.next {α : Type} {φ : α → Prop} {I : α → List (Nat × AV)} {H : α → List (Nat × Ent)} {μ : α → Nat} {m : Nat} (a0 : α) (h1 : φ a0) (hm : μ a0 < m) (hle : St.le C st (mkSt (I a0) (H a0)) := by first | (apply SX.St.lt0; (· (intro b h; first | (cases h; done) | exact ⟨rfl, h⟩ | exact SX.fixIs h)); (· (repeat (first | exact trivial | refine ⟨⟨_, rfl, SX.AVto.same rfl⟩, ?_⟩ | refine ⟨⟨_, rfl, SX.AVto.own rfl⟩, ?_⟩ | refine ⟨⟨_, rfl, SX.AVto.nil rfl⟩, ?_⟩ | refine ⟨⟨_, rfl, SX.AVto.int (by first | (with_reducible assumption) | omega | (simp; done) | assumption)⟩, ?_⟩ | refine ⟨⟨_, rfl, SX.AVto.str (by first | (with_reducible assumption) | (simp; done) | assumption)⟩, ?_⟩ | refine ⟨⟨_, rfl, SX.AVto.bool (by first | (with_reducible assumption) | (simp; done) | assumption)⟩, ?_⟩ | refine ⟨⟨_, rfl, SX.AVto.eq (by first | (with_reducible assumption) | (simp [*]; done)) rfl⟩, ?_⟩))); (· (repeat (first | exact trivial | refine ⟨SX.EntTo.row rfl rfl rfl rfl, ?_⟩ | refine ⟨SX.EntTo.row rfl rfl (by first | rfl | (simp; done)) (by first | rfl | assumption | exact SX.flat_snoc rfl | exact SX.flat_one rfl | (simp; done)), ?_⟩ | refine ⟨SX.EntTo.nilRow rfl, ?_⟩ | refine ⟨SX.EntTo.eq rfl rfl rfl, ?_⟩ | refine ⟨SX.EntTo.same rfl rfl, ?_⟩))); (· rfl)) | (apply SX.St.ltn; (· (intro b h; first | (cases h; done) | exact ⟨rfl, h⟩ | exact SX.fixIs h)); (· (repeat (first | exact trivial | refine ⟨⟨_, rfl, SX.AVto.same rfl⟩, ?_⟩ | refine ⟨⟨_, rfl, SX.AVto.own rfl⟩, ?_⟩ | refine ⟨⟨_, rfl, SX.AVto.nil rfl⟩, ?_⟩ | refine ⟨⟨_, rfl, SX.AVto.int (by first | (with_reducible assumption) | omega | (simp; done) | assumption)⟩, ?_⟩ | refine ⟨⟨_, rfl, SX.AVto.str (by first | (with_reducible assumption) | (simp; done) | assumption)⟩, ?_⟩ | refine ⟨⟨_, rfl, SX.AVto.bool (by first | (with_reducible assumption) | (simp; done) | assumption)⟩, ?_⟩ | refine ⟨⟨_, rfl, SX.AVto.eq (by first | (with_reducible assumption) | (simp [*]; done)) rfl⟩, ?_⟩))); (· (repeat (first | exact trivial | refine ⟨SX.EntTo.row rfl rfl rfl rfl, ?_⟩ | refine ⟨SX.EntTo.row rfl rfl (by first | rfl | (simp; done)) (by first | rfl | assumption | exact SX.flat_snoc rfl | exact SX.flat_one rfl | (simp; done)), ?_⟩ | refine ⟨SX.EntTo.nilRow rfl, ?_⟩ | refine ⟨SX.EntTo.eq rfl rfl rfl, ?_⟩ | refine ⟨SX.EntTo.same rfl rfl, ?_⟩))); (· rfl)) | (apply SX.St.lt1; (· (intro b h; first | (cases h; done) | exact ⟨rfl, h⟩ | exact SX.fixIs h)); (· (repeat (first | exact trivial | refine ⟨⟨_, rfl, SX.AVto.same rfl⟩, ?_⟩ | refine ⟨⟨_, rfl, SX.AVto.own rfl⟩, ?_⟩ | refine ⟨⟨_, rfl, SX.AVto.nil rfl⟩, ?_⟩ | refine ⟨⟨_, rfl, SX.AVto.int (by first | (with_reducible assumption) | omega | (simp; done) | assumption)⟩, ?_⟩ | refine ⟨⟨_, rfl, SX.AVto.str (by first | (with_reducible assumption) | (simp; done) | assumption)⟩, ?_⟩ | refine ⟨⟨_, rfl, SX.AVto.bool (by first | (with_reducible assumption) | (simp; done) | assumption)⟩, ?_⟩ | refine ⟨⟨_, rfl, SX.AVto.eq (by first | (with_reducible assumption) | (simp [*]; done)) rfl⟩, ?_⟩))); (· (repeat (first | exact trivial | refine ⟨SX.EntTo.row rfl rfl rfl rfl, ?_⟩ | refine ⟨SX.EntTo.row rfl rfl (by first | rfl | (simp; done)) (by first | rfl | assumption | exact SX.flat_snoc rfl | exact SX.flat_one rfl | (simp; done)), ?_⟩ | refine ⟨SX.EntTo.nilRow rfl, ?_⟩ | refine ⟨SX.EntTo.eq rfl rfl rfl, ?_⟩ | refine ⟨SX.EntTo.same rfl rfl, ?_⟩))); (· rfl)) | (apply SX.St.ltnn; (· (intro b h; first | (cases h; done) | exact ⟨rfl, h⟩ | exact SX.fixIs h)); (· (repeat (first | exact trivial | refine ⟨⟨_, rfl, SX.AVto.same rfl⟩, ?_⟩ | refine ⟨⟨_, rfl, SX.AVto.own rfl⟩, ?_⟩ | refine ⟨⟨_, rfl, SX.AVto.nil rfl⟩, ?_⟩ | refine ⟨⟨_, rfl, SX.AVto.int (by first | (with_reducible assumption) | omega | (simp; done) | assumption)⟩, ?_⟩ | refine ⟨⟨_, rfl, SX.AVto.str (by first | (with_reducible assumption) | (simp; done) | assumption)⟩, ?_⟩ | refine ⟨⟨_, rfl, SX.AVto.bool (by first | (with_reducible assumption) | (simp; done) | assumption)⟩, ?_⟩ | refine ⟨⟨_, rfl, SX.AVto.eq (by first | (with_reducible assumption) | (simp [*]; done)) rfl⟩, ?_⟩))); (· (repeat (first | exact trivial | refine ⟨SX.EntTo.row rfl rfl rfl rfl, ?_⟩ | refine ⟨SX.EntTo.row rfl rfl (by first | rfl | (simp; done)) (by first | rfl | assumption | exact SX.flat_snoc rfl | exact SX.flat_one rfl | (simp; done)), ?_⟩ | refine ⟨SX.EntTo.nilRow rfl, ?_⟩ | refine ⟨SX.EntTo.eq rfl rfl rfl, ?_⟩ | refine ⟨SX.EntTo.same rfl rfl, ?_⟩))); (· rfl)) | (apply SX.St.lt11; (· (intro b h; first | (cases h; done) | exact ⟨rfl, h⟩ | exact SX.fixIs h)); (· (repeat (first | exact trivial | refine ⟨⟨_, rfl, SX.AVto.same rfl⟩, ?_⟩ | refine ⟨⟨_, rfl, SX.AVto.own rfl⟩, ?_⟩ | refine ⟨⟨_, rfl, SX.AVto.nil rfl⟩, ?_⟩ | refine ⟨⟨_, rfl, SX.AVto.int (by first | (with_reducible assumption) | omega | (simp; done) | assumption)⟩, ?_⟩ | refine ⟨⟨_, rfl, SX.AVto.str (by first | (with_reducible assumption) | (simp; done) | assumption)⟩, ?_⟩ | refine ⟨⟨_, rfl, SX.AVto.bool (by first | (with_reducible assumption) | (simp; done) | assumption)⟩, ?_⟩ | refine ⟨⟨_, rfl, SX.AVto.eq (by first | (with_reducible assumption) | (simp [*]; done)) rfl⟩, ?_⟩))); (· (repeat (first | exact trivial | refine ⟨SX.EntTo.row rfl rfl rfl rfl, ?_⟩ | refine ⟨SX.EntTo.row rfl rfl (by first | rfl | (simp; done)) (by first | rfl | assumption | exact SX.flat_snoc rfl | exact SX.flat_one rfl | (simp; done)), ?_⟩ | refine ⟨SX.EntTo.nilRow rfl, ?_⟩ | refine ⟨SX.EntTo.eq rfl rfl rfl, ?_⟩ | refine ⟨SX.EntTo.same rfl rfl, ?_⟩))); (· rfl)) | (apply SX.St.ltn1; (· (intro b h; first | (cases h; done) | exact ⟨rfl, h⟩ | exact SX.fixIs h)); (· (repeat (first | exact trivial | refine ⟨⟨_, rfl, SX.AVto.same rfl⟩, ?_⟩ | refine ⟨⟨_, rfl, SX.AVto.own rfl⟩, ?_⟩ | refine ⟨⟨_, rfl, SX.AVto.nil rfl⟩, ?_⟩ | refine ⟨⟨_, rfl, SX.AVto.int (by first | (with_reducible assumption) | omega | (simp; done) | assumption)⟩, ?_⟩ | refine ⟨⟨_, rfl, SX.AVto.str (by first | (with_reducible assumption) | (simp; done) | assumption)⟩, ?_⟩ | refine ⟨⟨_, rfl, SX.AVto.bool (by first | (with_reducible assumption) | (simp; done) | assumption)⟩, ?_⟩ | refine ⟨⟨_, rfl, SX.AVto.eq (by first | (with_reducible assumption) | (simp [*]; done)) rfl⟩, ?_⟩))); (· (repeat (first | exact trivial | refine ⟨SX.EntTo.row rfl rfl rfl rfl, ?_⟩ | refine ⟨SX.EntTo.row rfl rfl (by first | rfl | (simp; done)) (by first | rfl | assumption | exact SX.flat_snoc rfl | exact SX.flat_one rfl | (simp; done)), ?_⟩ | refine ⟨SX.EntTo.nilRow rfl, ?_⟩ | refine ⟨SX.EntTo.eq rfl rfl rfl, ?_⟩ | refine ⟨SX.EntTo.same rfl rfl, ?_⟩))); (· rfl)) | (apply SX.St.lt1n; (· (intro b h; first | (cases h; done) | exact ⟨rfl, h⟩ | exact SX.fixIs h)); (· (repeat (first | exact trivial | refine ⟨⟨_, rfl, SX.AVto.same rfl⟩, ?_⟩ | refine ⟨⟨_, rfl, SX.AVto.own rfl⟩, ?_⟩ | refine ⟨⟨_, rfl, SX.AVto.nil rfl⟩, ?_⟩ | refine ⟨⟨_, rfl, SX.AVto.int (by first | (with_reducible assumption) | omega | (simp; done) | assumption)⟩, ?_⟩ | refine ⟨⟨_, rfl, SX.AVto.str (by first | (with_reducible assumption) | (simp; done) | assumption)⟩, ?_⟩ | refine ⟨⟨_, rfl, SX.AVto.bool (by first | (with_reducible assumption) | (simp; done) | assumption)⟩, ?_⟩ | refine ⟨⟨_, rfl, SX.AVto.eq (by first | (with_reducible assumption) | (simp [*]; done)) rfl⟩, ?_⟩))); (· (repeat (first | exact trivial | refine ⟨SX.EntTo.row rfl rfl rfl rfl, ?_⟩ | refine ⟨SX.EntTo.row rfl rfl (by first | rfl | (simp; done)) (by first | rfl | assumption | exact SX.flat_snoc rfl | exact SX.flat_one rfl | (simp; done)), ?_⟩ | refine ⟨SX.EntTo.nilRow rfl, ?_⟩ | refine ⟨SX.EntTo.eq rfl rfl rfl, ?_⟩ | refine ⟨SX.EntTo.same rfl rfl, ?_⟩))); (· rfl))) :
    ∃ a', φ a' ∧ St.le C st (mkSt (I a') (H a')) ∧ μ a' < m := ⟨a0, h1, hle, hm⟩
theorem W.loop2 {α β : Type} (φ : α → β → Prop) (I : α → β → List (Nat × AV)) (H : α → β → List (Nat × Ent)) (μ : α → β → Nat) (a0 : α) (b0 : β) (h0 : φ a0 b0)
    (round : ∀ a b, φ a b → WP P C c (mkSt (I a b) (H a b)) (thenK (fun s => ∃ a' b', φ a' b' ∧ St.le C s (mkSt (I a' b') (H a' b')) ∧ μ a' b' < μ a b) Q))
    (hle : St.le C st (mkSt (I a0 b0) (H a0 b0)) := by first | (apply SX.St.lt0; (· (intro b h; first | (cases h; done) | exact ⟨rfl, h⟩ | exact SX.fixIs h)); (· (repeat (first | exact trivial | refine ⟨⟨_, rfl, SX.AVto.same rfl⟩, ?_⟩ | refine ⟨⟨_, rfl, SX.AVto.own rfl⟩, ?_⟩ | refine ⟨⟨_, rfl, SX.AVto.nil rfl⟩, ?_⟩ | refine ⟨⟨_, rfl, SX.AVto.int (by first | (with_reducible assumption) | omega | (simp; done) | assumption)⟩, ?_⟩ | refine ⟨⟨_, rfl, SX.AVto.str (by first | (with_reducible assumption) | (simp; done) | assumption)⟩, ?_⟩ | refine ⟨⟨_, rfl, SX.AVto.bool (by first | (with_reducible assumption) | (simp; done) | assumption)⟩, ?_⟩ | refine ⟨⟨_, rfl, SX.AVto.eq (by first | (with_reducible assumption) | (simp [*]; done)) rfl⟩, ?_⟩))); (· (repeat (first | exact trivial | refine ⟨SX.EntTo.row rfl rfl rfl rfl, ?_⟩ | refine ⟨SX.EntTo.row rfl rfl (by first | rfl | (simp; done)) (by first | rfl | assumption | exact SX.flat_snoc rfl | exact SX.flat_one rfl | (simp; done)), ?_⟩ | refine ⟨SX.EntTo.nilRow rfl, ?_⟩ | refine ⟨SX.EntTo.eq rfl rfl rfl, ?_⟩ | refine ⟨SX.EntTo.same rfl rfl, ?_⟩))); (· rfl)) | (apply SX.St.ltn; (· (intro b h; first | (cases h; done) | exact ⟨rfl, h⟩ | exact SX.fixIs h)); (· (repeat (first | exact trivial | refine ⟨⟨_, rfl, SX.AVto.same rfl⟩, ?_⟩ | refine ⟨⟨_, rfl, SX.AVto.own rfl⟩, ?_⟩ | refine ⟨⟨_, rfl, SX.AVto.nil rfl⟩, ?_⟩ | refine ⟨⟨_, rfl, SX.AVto.int (by first | (with_reducible assumption) | omega | (simp; done) | assumption)⟩, ?_⟩ | refine ⟨⟨_, rfl, SX.AVto.str (by first | (with_reducible assumption) | (simp; done) | assumption)⟩, ?_⟩ | refine ⟨⟨_, rfl, SX.AVto.bool (by first | (with_reducible assumption) | (simp; done) | assumption)⟩, ?_⟩ | refine ⟨⟨_, rfl, SX.AVto.eq (by first | (with_reducible assumption) | (simp [*]; done)) rfl⟩, ?_⟩))); (· (repeat (first | exact trivial | refine ⟨SX.EntTo.row rfl rfl rfl rfl, ?_⟩ | refine ⟨SX.EntTo.row rfl rfl (by first | rfl | (simp; done)) (by first | rfl | assumption | exact SX.flat_snoc rfl | exact SX.flat_one rfl | (simp; done)), ?_⟩ | refine ⟨SX.EntTo.nilRow rfl, ?_⟩ | refine ⟨SX.EntTo.eq rfl rfl rfl, ?_⟩ | refine ⟨SX.EntTo.same rfl rfl, ?_⟩))); (· rfl)) | (apply SX.St.lt1; (· (intro b h; first | (cases h; done) | exact ⟨rfl, h⟩ | exact SX.fixIs h)); (· (repeat (first | exact trivial | refine ⟨⟨_, rfl, SX.AVto.same rfl⟩, ?_⟩ | refine ⟨⟨_, rfl, SX.AVto.own rfl⟩, ?_⟩ | refine ⟨⟨_, rfl, SX.AVto.nil rfl⟩, ?_⟩ | refine ⟨⟨_, rfl, SX.AVto.int (by first | (with_reducible assumption) | omega | (simp; done) | assumption)⟩, ?_⟩ | refine ⟨⟨_, rfl, SX.AVto.str (by first | (with_reducible assumption) | (simp; done) | assumption)⟩, ?_⟩ | refine ⟨⟨_, rfl, SX.AVto.bool (by first | (with_reducible assumption) | (simp; done) | assumption)⟩, ?_⟩ | refine ⟨⟨_, rfl, SX.AVto.eq (by first | (with_reducible assumption) | (simp [*]; done)) rfl⟩, ?_⟩))); (· (repeat (first | exact trivial | refine ⟨SX.EntTo.row rfl rfl rfl rfl, ?_⟩ | refine ⟨SX.EntTo.row rfl rfl (by first | rfl | (simp; done)) (by first | rfl | assumption | exact SX.flat_snoc rfl | exact SX.flat_one rfl | (simp; done)), ?_⟩ | refine ⟨SX.EntTo.nilRow rfl, ?_⟩ | refine ⟨SX.EntTo.eq rfl rfl rfl, ?_⟩ | refine ⟨SX.EntTo.same rfl rfl, ?_⟩))); (· rfl)) | (apply SX.St.ltnn; (· (intro b h; first | (cases h; done) | exact ⟨rfl, h⟩ | exact SX.fixIs h)); (· (repeat (first | exact trivial | refine ⟨⟨_, rfl, SX.AVto.same rfl⟩, ?_⟩ | refine ⟨⟨_, rfl, SX.AVto.own rfl⟩, ?_⟩ | refine ⟨⟨_, rfl, SX.AVto.nil rfl⟩, ?_⟩ | refine ⟨⟨_, rfl, SX.AVto.int (by first | (with_reducible assumption) | omega | (simp; done) | assumption)⟩, ?_⟩ | refine ⟨⟨_, rfl, SX.AVto.str (by first | (with_reducible assumption) | (simp; done) | assumption)⟩, ?_⟩ | refine ⟨⟨_, rfl, SX.AVto.bool (by first | (with_reducible assumption) | (simp; done) | assumption)⟩, ?_⟩ | refine ⟨⟨_, rfl, SX.AVto.eq (by first | (with_reducible assumption) | (simp [*]; done)) rfl⟩, ?_⟩))); (· (repeat (first | exact trivial | refine ⟨SX.EntTo.row rfl rfl rfl rfl, ?_⟩ | refine ⟨SX.EntTo.row rfl rfl (by first | rfl | (simp; done)) (by first | rfl | assumption | exact SX.flat_snoc rfl | exact SX.flat_one rfl | (simp; done)), ?_⟩ | refine ⟨SX.EntTo.nilRow rfl, ?_⟩ | refine ⟨SX.EntTo.eq rfl rfl rfl, ?_⟩ | refine ⟨SX.EntTo.same rfl rfl, ?_⟩))); (· rfl)) | (apply SX.St.lt11; (· (intro b h; first | (cases h; done) | exact ⟨rfl, h⟩ | exact SX.fixIs h)); (· (repeat (first | exact trivial | refine ⟨⟨_, rfl, SX.AVto.same rfl⟩, ?_⟩ | refine ⟨⟨_, rfl, SX.AVto.own rfl⟩, ?_⟩ | refine ⟨⟨_, rfl, SX.AVto.nil rfl⟩, ?_⟩ | refine ⟨⟨_, rfl, SX.AVto.int (by first | (with_reducible assumption) | omega | (simp; done) | assumption)⟩, ?_⟩ | refine ⟨⟨_, rfl, SX.AVto.str (by first | (with_reducible assumption) | (simp; done) | assumption)⟩, ?_⟩ | refine ⟨⟨_, rfl, SX.AVto.bool (by first | (with_reducible assumption) | (simp; done) | assumption)⟩, ?_⟩ | refine ⟨⟨_, rfl, SX.AVto.eq (by first | (with_reducible assumption) | (simp [*]; done)) rfl⟩, ?_⟩))); (· (repeat (first | exact trivial | refine ⟨SX.EntTo.row rfl rfl rfl rfl, ?_⟩ | refine ⟨SX.EntTo.row rfl rfl (by first | rfl | (simp; done)) (by first | rfl | assumption | exact SX.flat_snoc rfl | exact SX.flat_one rfl | (simp; done)), ?_⟩ | refine ⟨SX.EntTo.nilRow rfl, ?_⟩ | refine ⟨SX.EntTo.eq rfl rfl rfl, ?_⟩ | refine ⟨SX.EntTo.same rfl rfl, ?_⟩))); (· rfl)) | (apply SX.St.ltn1; (· (intro b h; first | (cases h; done) | exact ⟨rfl, h⟩ | exact SX.fixIs h)); (· (repeat (first | exact trivial | refine ⟨⟨_, rfl, SX.AVto.same rfl⟩, ?_⟩ | refine ⟨⟨_, rfl, SX.AVto.own rfl⟩, ?_⟩ | refine ⟨⟨_, rfl, SX.AVto.nil rfl⟩, ?_⟩ | refine ⟨⟨_, rfl, SX.AVto.int (by first | (with_reducible assumption) | omega | (simp; done) | assumption)⟩, ?_⟩ | refine ⟨⟨_, rfl, SX.AVto.str (by first | (with_reducible assumption) | (simp; done) | assumption)⟩, ?_⟩ | refine ⟨⟨_, rfl, SX.AVto.bool (by first | (with_reducible assumption) | (simp; done) | assumption)⟩, ?_⟩ | refine ⟨⟨_, rfl, SX.AVto.eq (by first | (with_reducible assumption) | (simp [*]; done)) rfl⟩, ?_⟩))); (· (repeat (first | exact trivial | refine ⟨SX.EntTo.row rfl rfl rfl rfl, ?_⟩ | refine ⟨SX.EntTo.row rfl rfl (by first | rfl | (simp; done)) (by first | rfl | assumption | exact SX.flat_snoc rfl | exact SX.flat_one rfl | (simp; done)), ?_⟩ | refine ⟨SX.EntTo.nilRow rfl, ?_⟩ | refine ⟨SX.EntTo.eq rfl rfl rfl, ?_⟩ | refine ⟨SX.EntTo.same rfl rfl, ?_⟩))); (· rfl)) | (apply SX.St.lt1n; (· (intro b h; first | (cases h; done) | exact ⟨rfl, h⟩ | exact SX.fixIs h)); (· (repeat (first | exact trivial | refine ⟨⟨_, rfl, SX.AVto.same rfl⟩, ?_⟩ | refine ⟨⟨_, rfl, SX.AVto.own rfl⟩, ?_⟩ | refine ⟨⟨_, rfl, SX.AVto.nil rfl⟩, ?_⟩ | refine ⟨⟨_, rfl, SX.AVto.int (by first | (with_reducible assumption) | omega | (simp; done) | assumption)⟩, ?_⟩ | refine ⟨⟨_, rfl, SX.AVto.str (by first | (with_reducible assumption) | (simp; done) | assumption)⟩, ?_⟩ | refine ⟨⟨_, rfl, SX.AVto.bool (by first | (with_reducible assumption) | (simp; done) | assumption)⟩, ?_⟩ | refine ⟨⟨_, rfl, SX.AVto.eq (by first | (with_reducible assumption) | (simp [*]; done)) rfl⟩, ?_⟩))); (· (repeat (first | exact trivial | refine ⟨SX.EntTo.row rfl rfl rfl rfl, ?_⟩ | refine ⟨SX.EntTo.row rfl rfl (by first | rfl | (simp; done)) (by first | rfl | assumption | exact SX.flat_snoc rfl | exact SX.flat_one rfl | (simp; done)), ?_⟩ | refine ⟨SX.EntTo.nilRow rfl, ?_⟩ | refine ⟨SX.EntTo.eq rfl rfl rfl, ?_⟩ | refine ⟨SX.EntTo.same rfl rfl, ?_⟩))); (· rfl))) : WP P C (.loop c) st Q :=
  WP.loop (ι := {p : α × β // φ p.1 p.2}) (fun q => match q with | ⟨p, _⟩ => mkSt (I p.1 p.2) (H p.1 p.2)) (fun q => match q with | ⟨p, _⟩ => μ p.1 p.2) ⟨(a0, b0), h0⟩ hle (fun ⟨p, hp⟩ => (round p.1 p.2 hp).mono fun e s h => by
    cases e with
    | normal =>
      obtain ⟨a', b', hφ, hl, hm⟩ := h
      exact ⟨⟨(a', b'), hφ⟩, hl, hm⟩
    | _ => exact h)
theorem W.next2 {α β : Type} {φ : α → β → Prop} {I : α → β → List (Nat × AV)} {H : α → β → List (Nat × Ent)} {μ : α → β → Nat} {m : Nat} (a0 : α) (b0 : β) (h1 : φ a0 b0) (hm : μ a0 b0 < m) (hle : St.le C st (mkSt (I a0 b0) (H a0 b0)) := by first | (apply SX.St.lt0; (· (intro b h; first | (cases h; done) | exact ⟨rfl, h⟩ | exact SX.fixIs h)); (· (repeat (first | exact trivial | refine ⟨⟨_, rfl, SX.AVto.same rfl⟩, ?_⟩ | refine ⟨⟨_, rfl, SX.AVto.own rfl⟩, ?_⟩ | refine ⟨⟨_, rfl, SX.AVto.nil rfl⟩, ?_⟩ | refine ⟨⟨_, rfl, SX.AVto.int (by first | (with_reducible assumption) | omega | (simp; done) | assumption)⟩, ?_⟩ | refine ⟨⟨_, rfl, SX.AVto.str (by first | (with_reducible assumption) | (simp; done) | assumption)⟩, ?_⟩ | refine ⟨⟨_, rfl, SX.AVto.bool (by first | (with_reducible assumption) | (simp; done) | assumption)⟩, ?_⟩ | refine ⟨⟨_, rfl, SX.AVto.eq (by first | (with_reducible assumption) | (simp [*]; done)) rfl⟩, ?_⟩))); (· (repeat (first | exact trivial | refine ⟨SX.EntTo.row rfl rfl rfl rfl, ?_⟩ | refine ⟨SX.EntTo.row rfl rfl (by first | rfl | (simp; done)) (by first | rfl | assumption | exact SX.flat_snoc rfl | exact SX.flat_one rfl | (simp; done)), ?_⟩ | refine ⟨SX.EntTo.nilRow rfl, ?_⟩ | refine ⟨SX.EntTo.eq rfl rfl rfl, ?_⟩ | refine ⟨SX.EntTo.same rfl rfl, ?_⟩))); (· rfl)) | (apply SX.St.ltn; (· (intro b h; first | (cases h; done) | exact ⟨rfl, h⟩ | exact SX.fixIs h)); (· (repeat (first | exact trivial | refine ⟨⟨_, rfl, SX.AVto.same rfl⟩, ?_⟩ | refine ⟨⟨_, rfl, SX.AVto.own rfl⟩, ?_⟩ | refine ⟨⟨_, rfl, SX.AVto.nil rfl⟩, ?_⟩ | refine ⟨⟨_, rfl, SX.AVto.int (by first | (with_reducible assumption) | omega | (simp; done) | assumption)⟩, ?_⟩ | refine ⟨⟨_, rfl, SX.AVto.str (by first | (with_reducible assumption) | (simp; done) | assumption)⟩, ?_⟩ | refine ⟨⟨_, rfl, SX.AVto.bool (by first | (with_reducible assumption) | (simp; done) | assumption)⟩, ?_⟩ | refine ⟨⟨_, rfl, SX.AVto.eq (by first | (with_reducible assumption) | (simp [*]; done)) rfl⟩, ?_⟩))); (· (repeat (first | exact trivial | refine ⟨SX.EntTo.row rfl rfl rfl rfl, ?_⟩ | refine ⟨SX.EntTo.row rfl rfl (by first | rfl | (simp; done)) (by first | rfl | assumption | exact SX.flat_snoc rfl | exact SX.flat_one rfl | (simp; done)), ?_⟩ | refine ⟨SX.EntTo.nilRow rfl, ?_⟩ | refine ⟨SX.EntTo.eq rfl rfl rfl, ?_⟩ | refine ⟨SX.EntTo.same rfl rfl, ?_⟩))); (· rfl)) | (apply SX.St.lt1; (· (intro b h; first | (cases h; done) | exact ⟨rfl, h⟩ | exact SX.fixIs h)); (· (repeat (first | exact trivial | refine ⟨⟨_, rfl, SX.AVto.same rfl⟩, ?_⟩ | refine ⟨⟨_, rfl, SX.AVto.own rfl⟩, ?_⟩ | refine ⟨⟨_, rfl, SX.AVto.nil rfl⟩, ?_⟩ | refine ⟨⟨_, rfl, SX.AVto.int (by first | (with_reducible assumption) | omega | (simp; done) | assumption)⟩, ?_⟩ | refine ⟨⟨_, rfl, SX.AVto.str (by first | (with_reducible assumption) | (simp; done) | assumption)⟩, ?_⟩ | refine ⟨⟨_, rfl, SX.AVto.bool (by first | (with_reducible assumption) | (simp; done) | assumption)⟩, ?_⟩ | refine ⟨⟨_, rfl, SX.AVto.eq (by first | (with_reducible assumption) | (simp [*]; done)) rfl⟩, ?_⟩))); (· (repeat (first | exact trivial | refine ⟨SX.EntTo.row rfl rfl rfl rfl, ?_⟩ | refine ⟨SX.EntTo.row rfl rfl (by first | rfl | (simp; done)) (by first | rfl | assumption | exact SX.flat_snoc rfl | exact SX.flat_one rfl | (simp; done)), ?_⟩ | refine ⟨SX.EntTo.nilRow rfl, ?_⟩ | refine ⟨SX.EntTo.eq rfl rfl rfl, ?_⟩ | refine ⟨SX.EntTo.same rfl rfl, ?_⟩))); (· rfl)) | (apply SX.St.ltnn; (· (intro b h; first | (cases h; done) | exact ⟨rfl, h⟩ | exact SX.fixIs h)); (· (repeat (first | exact trivial | refine ⟨⟨_, rfl, SX.AVto.same rfl⟩, ?_⟩ | refine ⟨⟨_, rfl, SX.AVto.own rfl⟩, ?_⟩ | refine ⟨⟨_, rfl, SX.AVto.nil rfl⟩, ?_⟩ | refine ⟨⟨_, rfl, SX.AVto.int (by first | (with_reducible assumption) | omega | (simp; done) | assumption)⟩, ?_⟩ | refine ⟨⟨_, rfl, SX.AVto.str (by first | (with_reducible assumption) | (simp; done) | assumption)⟩, ?_⟩ | refine ⟨⟨_, rfl, SX.AVto.bool (by first | (with_reducible assumption) | (simp; done) | assumption)⟩, ?_⟩ | refine ⟨⟨_, rfl, SX.AVto.eq (by first | (with_reducible assumption) | (simp [*]; done)) rfl⟩, ?_⟩))); (· (repeat (first | exact trivial | refine ⟨SX.EntTo.row rfl rfl rfl rfl, ?_⟩ | refine ⟨SX.EntTo.row rfl rfl (by first | rfl | (simp; done)) (by first | rfl | assumption | exact SX.flat_snoc rfl | exact SX.flat_one rfl | (simp; done)), ?_⟩ | refine ⟨SX.EntTo.nilRow rfl, ?_⟩ | refine ⟨SX.EntTo.eq rfl rfl rfl, ?_⟩ | refine ⟨SX.EntTo.same rfl rfl, ?_⟩))); (· rfl)) | (apply SX.St.lt11; (· (intro b h; first | (cases h; done) | exact ⟨rfl, h⟩ | exact SX.fixIs h)); (· (repeat (first | exact trivial | refine ⟨⟨_, rfl, SX.AVto.same rfl⟩, ?_⟩ | refine ⟨⟨_, rfl, SX.AVto.own rfl⟩, ?_⟩ | refine ⟨⟨_, rfl, SX.AVto.nil rfl⟩, ?_⟩ | refine ⟨⟨_, rfl, SX.AVto.int (by first | (with_reducible assumption) | omega | (simp; done) | assumption)⟩, ?_⟩ | refine ⟨⟨_, rfl, SX.AVto.str (by first | (with_reducible assumption) | (simp; done) | assumption)⟩, ?_⟩ | refine ⟨⟨_, rfl, SX.AVto.bool (by first | (with_reducible assumption) | (simp; done) | assumption)⟩, ?_⟩ | refine ⟨⟨_, rfl, SX.AVto.eq (by first | (with_reducible assumption) | (simp [*]; done)) rfl⟩, ?_⟩))); (· (repeat (first | exact trivial | refine ⟨SX.EntTo.row rfl rfl rfl rfl, ?_⟩ | refine ⟨SX.EntTo.row rfl rfl (by first | rfl | (simp; done)) (by first | rfl | assumption | exact SX.flat_snoc rfl | exact SX.flat_one rfl | (simp; done)), ?_⟩ | refine ⟨SX.EntTo.nilRow rfl, ?_⟩ | refine ⟨SX.EntTo.eq rfl rfl rfl, ?_⟩ | refine ⟨SX.EntTo.same rfl rfl, ?_⟩))); (· rfl)) | (apply SX.St.ltn1; (· (intro b h; first | (cases h; done) | exact ⟨rfl, h⟩ | exact SX.fixIs h)); (· (repeat (first | exact trivial | refine ⟨⟨_, rfl, SX.AVto.same rfl⟩, ?_⟩ | refine ⟨⟨_, rfl, SX.AVto.own rfl⟩, ?_⟩ | refine ⟨⟨_, rfl, SX.AVto.nil rfl⟩, ?_⟩ | refine ⟨⟨_, rfl, SX.AVto.int (by first | (with_reducible assumption) | omega | (simp; done) | assumption)⟩, ?_⟩ | refine ⟨⟨_, rfl, SX.AVto.str (by first | (with_reducible assumption) | (simp; done) | assumption)⟩, ?_⟩ | refine ⟨⟨_, rfl, SX.AVto.bool (by first | (with_reducible assumption) | (simp; done) | assumption)⟩, ?_⟩ | refine ⟨⟨_, rfl, SX.AVto.eq (by first | (with_reducible assumption) | (simp [*]; done)) rfl⟩, ?_⟩))); (· (repeat (first | exact trivial | refine ⟨SX.EntTo.row rfl rfl rfl rfl, ?_⟩ | refine ⟨SX.EntTo.row rfl rfl (by first | rfl | (simp; done)) (by first | rfl | assumption | exact SX.flat_snoc rfl | exact SX.flat_one rfl | (simp; done)), ?_⟩ | refine ⟨SX.EntTo.nilRow rfl, ?_⟩ | refine ⟨SX.EntTo.eq rfl rfl rfl, ?_⟩ | refine ⟨SX.EntTo.same rfl rfl, ?_⟩))); (· rfl)) | (apply SX.St.lt1n; (· (intro b h; first | (cases h; done) | exact ⟨rfl, h⟩ | exact SX.fixIs h)); (· (repeat (first | exact trivial | refine ⟨⟨_, rfl, SX.AVto.same rfl⟩, ?_⟩ | refine ⟨⟨_, rfl, SX.AVto.own rfl⟩, ?_⟩ | refine ⟨⟨_, rfl, SX.AVto.nil rfl⟩, ?_⟩ | refine ⟨⟨_, rfl, SX.AVto.int (by first | (with_reducible assumption) | omega | (simp; done) | assumption)⟩, ?_⟩ | refine ⟨⟨_, rfl, SX.AVto.str (by first | (with_reducible assumption) | (simp; done) | assumption)⟩, ?_⟩ | refine ⟨⟨_, rfl, SX.AVto.bool (by first | (with_reducible assumption) | (simp; done) | assumption)⟩, ?_⟩ | refine ⟨⟨_, rfl, SX.AVto.eq (by first | (with_reducible assumption) | (simp [*]; done)) rfl⟩, ?_⟩))); (· (repeat (first | exact trivial | refine ⟨SX.EntTo.row rfl rfl rfl rfl, ?_⟩ | refine ⟨SX.EntTo.row rfl rfl (by first | rfl | (simp; done)) (by first | rfl | assumption | exact SX.flat_snoc rfl | exact SX.flat_one rfl | (simp; done)), ?_⟩ | refine ⟨SX.EntTo.nilRow rfl, ?_⟩ | refine ⟨SX.EntTo.eq rfl rfl rfl, ?_⟩ | refine ⟨SX.EntTo.same rfl rfl, ?_⟩))); (· rfl))) :
    ∃ a' b', φ a' b' ∧ St.le C st (mkSt (I a' b') (H a' b')) ∧ μ a' b' < m := ⟨a0, b0, h1, hle, hm⟩
theorem W.loop3 {α β γ : Type} (φ : α → β → γ → Prop) (I : α → β → γ → List (Nat × AV)) (H : α → β → γ → List (Nat × Ent)) (μ : α → β → γ → Nat) (a0 : α) (b0 : β) (d0 : γ) (h0 : φ a0 b0 d0)
    (round : ∀ a b d, φ a b d → WP P C c (mkSt (I a b d) (H a b d)) (thenK (fun s => ∃ a' b' d', φ a' b' d' ∧ St.le C s (mkSt (I a' b' d') (H a' b' d')) ∧ μ a' b' d' < μ a b d) Q))
    (hle : St.le C st (mkSt (I a0 b0 d0) (H a0 b0 d0)) := by first | (apply SX.St.lt0; (· (intro b h; first | (cases h; done) | exact ⟨rfl, h⟩ | exact SX.fixIs h)); (· (repeat (first | exact trivial | refine ⟨⟨_, rfl, SX.AVto.same rfl⟩, ?_⟩ | refine ⟨⟨_, rfl, SX.AVto.own rfl⟩, ?_⟩ | refine ⟨⟨_, rfl, SX.AVto.nil rfl⟩, ?_⟩ | refine ⟨⟨_, rfl, SX.AVto.int (by first | (with_reducible assumption) | omega | (simp; done) | assumption)⟩, ?_⟩ | refine ⟨⟨_, rfl, SX.AVto.str (by first | (with_reducible assumption) | (simp; done) | assumption)⟩, ?_⟩ | refine ⟨⟨_, rfl, SX.AVto.bool (by first | (with_reducible assumption) | (simp; done) | assumption)⟩, ?_⟩ | refine ⟨⟨_, rfl, SX.AVto.eq (by first | (with_reducible assumption) | (simp [*]; done)) rfl⟩, ?_⟩))); (· (repeat (first | exact trivial | refine ⟨SX.EntTo.row rfl rfl rfl rfl, ?_⟩ | refine ⟨SX.EntTo.row rfl rfl (by first | rfl | (simp; done)) (by first | rfl | assumption | exact SX.flat_snoc rfl | exact SX.flat_one rfl | (simp; done)), ?_⟩ | refine ⟨SX.EntTo.nilRow rfl, ?_⟩ | refine ⟨SX.EntTo.eq rfl rfl rfl, ?_⟩ | refine ⟨SX.EntTo.same rfl rfl, ?_⟩))); (· rfl)) | (apply SX.St.ltn; (· (intro b h; first | (cases h; done) | exact ⟨rfl, h⟩ | exact SX.fixIs h)); (· (repeat (first | exact trivial | refine ⟨⟨_, rfl, SX.AVto.same rfl⟩, ?_⟩ | refine ⟨⟨_, rfl, SX.AVto.own rfl⟩, ?_⟩ | refine ⟨⟨_, rfl, SX.AVto.nil rfl⟩, ?_⟩ | refine ⟨⟨_, rfl, SX.AVto.int (by first | (with_reducible assumption) | omega | (simp; done) | assumption)⟩, ?_⟩ | refine ⟨⟨_, rfl, SX.AVto.str (by first | (with_reducible assumption) | (simp; done) | assumption)⟩, ?_⟩ | refine ⟨⟨_, rfl, SX.AVto.bool (by first | (with_reducible assumption) | (simp; done) | assumption)⟩, ?_⟩ | refine ⟨⟨_, rfl, SX.AVto.eq (by first | (with_reducible assumption) | (simp [*]; done)) rfl⟩, ?_⟩))); (· (repeat (first | exact trivial | refine ⟨SX.EntTo.row rfl rfl rfl rfl, ?_⟩ | refine ⟨SX.EntTo.row rfl rfl (by first | rfl | (simp; done)) (by first | rfl | assumption | exact SX.flat_snoc rfl | exact SX.flat_one rfl | (simp; done)), ?_⟩ | refine ⟨SX.EntTo.nilRow rfl, ?_⟩ | refine ⟨SX.EntTo.eq rfl rfl rfl, ?_⟩ | refine ⟨SX.EntTo.same rfl rfl, ?_⟩))); (· rfl)) | (apply SX.St.lt1; (· (intro b h; first | (cases h; done) | exact ⟨rfl, h⟩ | exact SX.fixIs h)); (· (repeat (first | exact trivial | refine ⟨⟨_, rfl, SX.AVto.same rfl⟩, ?_⟩ | refine ⟨⟨_, rfl, SX.AVto.own rfl⟩, ?_⟩ | refine ⟨⟨_, rfl, SX.AVto.nil rfl⟩, ?_⟩ | refine ⟨⟨_, rfl, SX.AVto.int (by first | (with_reducible assumption) | omega | (simp; done) | assumption)⟩, ?_⟩ | refine ⟨⟨_, rfl, SX.AVto.str (by first | (with_reducible assumption) | (simp; done) | assumption)⟩, ?_⟩ | refine ⟨⟨_, rfl, SX.AVto.bool (by first | (with_reducible assumption) | (simp; done) | assumption)⟩, ?_⟩ | refine ⟨⟨_, rfl, SX.AVto.eq (by first | (with_reducible assumption) | (simp [*]; done)) rfl⟩, ?_⟩))); (· (repeat (first | exact trivial | refine ⟨SX.EntTo.row rfl rfl rfl rfl, ?_⟩ | refine ⟨SX.EntTo.row rfl rfl (by first | rfl | (simp; done)) (by first | rfl | assumption | exact SX.flat_snoc rfl | exact SX.flat_one rfl | (simp; done)), ?_⟩ | refine ⟨SX.EntTo.nilRow rfl, ?_⟩ | refine ⟨SX.EntTo.eq rfl rfl rfl, ?_⟩ | refine ⟨SX.EntTo.same rfl rfl, ?_⟩))); (· rfl)) | (apply SX.St.ltnn; (· (intro b h; first | (cases h; done) | exact ⟨rfl, h⟩ | exact SX.fixIs h)); (· (repeat (first | exact trivial | refine ⟨⟨_, rfl, SX.AVto.same rfl⟩, ?_⟩ | refine ⟨⟨_, rfl, SX.AVto.own rfl⟩, ?_⟩ | refine ⟨⟨_, rfl, SX.AVto.nil rfl⟩, ?_⟩ | refine ⟨⟨_, rfl, SX.AVto.int (by first | (with_reducible assumption) | omega | (simp; done) | assumption)⟩, ?_⟩ | refine ⟨⟨_, rfl, SX.AVto.str (by first | (with_reducible assumption) | (simp; done) | assumption)⟩, ?_⟩ | refine ⟨⟨_, rfl, SX.AVto.bool (by first | (with_reducible assumption) | (simp; done) | assumption)⟩, ?_⟩ | refine ⟨⟨_, rfl, SX.AVto.eq (by first | (with_reducible assumption) | (simp [*]; done)) rfl⟩, ?_⟩))); (· (repeat (first | exact trivial | refine ⟨SX.EntTo.row rfl rfl rfl rfl, ?_⟩ | refine ⟨SX.EntTo.row rfl rfl (by first | rfl | (simp; done)) (by first | rfl | assumption | exact SX.flat_snoc rfl | exact SX.flat_one rfl | (simp; done)), ?_⟩ | refine ⟨SX.EntTo.nilRow rfl, ?_⟩ | refine ⟨SX.EntTo.eq rfl rfl rfl, ?_⟩ | refine ⟨SX.EntTo.same rfl rfl, ?_⟩))); (· rfl)) | (apply SX.St.lt11; (· (intro b h; first | (cases h; done) | exact ⟨rfl, h⟩ | exact SX.fixIs h)); (· (repeat (first | exact trivial | refine ⟨⟨_, rfl, SX.AVto.same rfl⟩, ?_⟩ | refine ⟨⟨_, rfl, SX.AVto.own rfl⟩, ?_⟩ | refine ⟨⟨_, rfl, SX.AVto.nil rfl⟩, ?_⟩ | refine ⟨⟨_, rfl, SX.AVto.int (by first | (with_reducible assumption) | omega | (simp; done) | assumption)⟩, ?_⟩ | refine ⟨⟨_, rfl, SX.AVto.str (by first | (with_reducible assumption) | (simp; done) | assumption)⟩, ?_⟩ | refine ⟨⟨_, rfl, SX.AVto.bool (by first | (with_reducible assumption) | (simp; done) | assumption)⟩, ?_⟩ | refine ⟨⟨_, rfl, SX.AVto.eq (by first | (with_reducible assumption) | (simp [*]; done)) rfl⟩, ?_⟩))); (· (repeat (first | exact trivial | refine ⟨SX.EntTo.row rfl rfl rfl rfl, ?_⟩ | refine ⟨SX.EntTo.row rfl rfl (by first | rfl | (simp; done)) (by first | rfl | assumption | exact SX.flat_snoc rfl | exact SX.flat_one rfl | (simp; done)), ?_⟩ | refine ⟨SX.EntTo.nilRow rfl, ?_⟩ | refine ⟨SX.EntTo.eq rfl rfl rfl, ?_⟩ | refine ⟨SX.EntTo.same rfl rfl, ?_⟩))); (· rfl)) | (apply SX.St.ltn1; (· (intro b h; first | (cases h; done) | exact ⟨rfl, h⟩ | exact SX.fixIs h)); (· (repeat (first | exact trivial | refine ⟨⟨_, rfl, SX.AVto.same rfl⟩, ?_⟩ | refine ⟨⟨_, rfl, SX.AVto.own rfl⟩, ?_⟩ | refine ⟨⟨_, rfl, SX.AVto.nil rfl⟩, ?_⟩ | refine ⟨⟨_, rfl, SX.AVto.int (by first | (with_reducible assumption) | omega | (simp; done) | assumption)⟩, ?_⟩ | refine ⟨⟨_, rfl, SX.AVto.str (by first | (with_reducible assumption) | (simp; done) | assumption)⟩, ?_⟩ | refine ⟨⟨_, rfl, SX.AVto.bool (by first | (with_reducible assumption) | (simp; done) | assumption)⟩, ?_⟩ | refine ⟨⟨_, rfl, SX.AVto.eq (by first | (with_reducible assumption) | (simp [*]; done)) rfl⟩, ?_⟩))); (· (repeat (first | exact trivial | refine ⟨SX.EntTo.row rfl rfl rfl rfl, ?_⟩ | refine ⟨SX.EntTo.row rfl rfl (by first | rfl | (simp; done)) (by first | rfl | assumption | exact SX.flat_snoc rfl | exact SX.flat_one rfl | (simp; done)), ?_⟩ | refine ⟨SX.EntTo.nilRow rfl, ?_⟩ | refine ⟨SX.EntTo.eq rfl rfl rfl, ?_⟩ | refine ⟨SX.EntTo.same rfl rfl, ?_⟩))); (· rfl)) | (apply SX.St.lt1n; (· (intro b h; first | (cases h; done) | exact ⟨rfl, h⟩ | exact SX.fixIs h)); (· (repeat (first | exact trivial | refine ⟨⟨_, rfl, SX.AVto.same rfl⟩, ?_⟩ | refine ⟨⟨_, rfl, SX.AVto.own rfl⟩, ?_⟩ | refine ⟨⟨_, rfl, SX.AVto.nil rfl⟩, ?_⟩ | refine ⟨⟨_, rfl, SX.AVto.int (by first | (with_reducible assumption) | omega | (simp; done) | assumption)⟩, ?_⟩ | refine ⟨⟨_, rfl, SX.AVto.str (by first | (with_reducible assumption) | (simp; done) | assumption)⟩, ?_⟩ | refine ⟨⟨_, rfl, SX.AVto.bool (by first | (with_reducible assumption) | (simp; done) | assumption)⟩, ?_⟩ | refine ⟨⟨_, rfl, SX.AVto.eq (by first | (with_reducible assumption) | (simp [*]; done)) rfl⟩, ?_⟩))); (· (repeat (first | exact trivial | refine ⟨SX.EntTo.row rfl rfl rfl rfl, ?_⟩ | refine ⟨SX.EntTo.row rfl rfl (by first | rfl | (simp; done)) (by first | rfl | assumption | exact SX.flat_snoc rfl | exact SX.flat_one rfl | (simp; done)), ?_⟩ | refine ⟨SX.EntTo.nilRow rfl, ?_⟩ | refine ⟨SX.EntTo.eq rfl rfl rfl, ?_⟩ | refine ⟨SX.EntTo.same rfl rfl, ?_⟩))); (· rfl))) : WP P C (.loop c) st Q :=
  WP.loop (ι := {p : α × β × γ // φ p.1 p.2.1 p.2.2}) (fun q => match q with | ⟨p, _⟩ => mkSt (I p.1 p.2.1 p.2.2) (H p.1 p.2.1 p.2.2)) (fun q => match q with | ⟨p, _⟩ => μ p.1 p.2.1 p.2.2) ⟨(a0, b0, d0), h0⟩ hle (fun ⟨p, hp⟩ => (round p.1 p.2.1 p.2.2 hp).mono fun e s h => by
    cases e with
    | normal =>
      obtain ⟨a', b', d', hφ, hl, hm⟩ := h
      exact ⟨⟨(a', b', d'), hφ⟩, hl, hm⟩
    | _ => exact h)
theorem W.next3 {α β γ : Type} {φ : α → β → γ → Prop} {I : α → β → γ → List (Nat × AV)} {H : α → β → γ → List (Nat × Ent)} {μ : α → β → γ → Nat} {m : Nat} (a0 : α) (b0 : β) (d0 : γ) (h1 : φ a0 b0 d0) (hm : μ a0 b0 d0 < m) (hle : St.le C st (mkSt (I a0 b0 d0) (H a0 b0 d0)) := by first | (apply SX.St.lt0; (· (intro b h; first | (cases h; done) | exact ⟨rfl, h⟩ | exact SX.fixIs h)); (· (repeat (first | exact trivial | refine ⟨⟨_, rfl, SX.AVto.same rfl⟩, ?_⟩ | refine ⟨⟨_, rfl, SX.AVto.own rfl⟩, ?_⟩ | refine ⟨⟨_, rfl, SX.AVto.nil rfl⟩, ?_⟩ | refine ⟨⟨_, rfl, SX.AVto.int (by first | (with_reducible assumption) | omega | (simp; done) | assumption)⟩, ?_⟩ | refine ⟨⟨_, rfl, SX.AVto.str (by first | (with_reducible assumption) | (simp; done) | assumption)⟩, ?_⟩ | refine ⟨⟨_, rfl, SX.AVto.bool (by first | (with_reducible assumption) | (simp; done) | assumption)⟩, ?_⟩ | refine ⟨⟨_, rfl, SX.AVto.eq (by first | (with_reducible assumption) | (simp [*]; done)) rfl⟩, ?_⟩))); (· (repeat (first | exact trivial | refine ⟨SX.EntTo.row rfl rfl rfl rfl, ?_⟩ | refine ⟨SX.EntTo.row rfl rfl (by first | rfl | (simp; done)) (by first | rfl | assumption | exact SX.flat_snoc rfl | exact SX.flat_one rfl | (simp; done)), ?_⟩ | refine ⟨SX.EntTo.nilRow rfl, ?_⟩ | refine ⟨SX.EntTo.eq rfl rfl rfl, ?_⟩ | refine ⟨SX.EntTo.same rfl rfl, ?_⟩))); (· rfl)) | (apply SX.St.ltn; (· (intro b h; first | (cases h; done) | exact ⟨rfl, h⟩ | exact SX.fixIs h)); (· (repeat (first | exact trivial | refine ⟨⟨_, rfl, SX.AVto.same rfl⟩, ?_⟩ | refine ⟨⟨_, rfl, SX.AVto.own rfl⟩, ?_⟩ | refine ⟨⟨_, rfl, SX.AVto.nil rfl⟩, ?_⟩ | refine ⟨⟨_, rfl, SX.AVto.int (by first | (with_reducible assumption) | omega | (simp; done) | assumption)⟩, ?_⟩ | refine ⟨⟨_, rfl, SX.AVto.str (by first | (with_reducible assumption) | (simp; done) | assumption)⟩, ?_⟩ | refine ⟨⟨_, rfl, SX.AVto.bool (by first | (with_reducible assumption) | (simp; done) | assumption)⟩, ?_⟩ | refine ⟨⟨_, rfl, SX.AVto.eq (by first | (with_reducible assumption) | (simp [*]; done)) rfl⟩, ?_⟩))); (· (repeat (first | exact trivial | refine ⟨SX.EntTo.row rfl rfl rfl rfl, ?_⟩ | refine ⟨SX.EntTo.row rfl rfl (by first | rfl | (simp; done)) (by first | rfl | assumption | exact SX.flat_snoc rfl | exact SX.flat_one rfl | (simp; done)), ?_⟩ | refine ⟨SX.EntTo.nilRow rfl, ?_⟩ | refine ⟨SX.EntTo.eq rfl rfl rfl, ?_⟩ | refine ⟨SX.EntTo.same rfl rfl, ?_⟩))); (· rfl)) | (apply SX.St.lt1; (· (intro b h; first | (cases h; done) | exact ⟨rfl, h⟩ | exact SX.fixIs h)); (· (repeat (first | exact trivial | refine ⟨⟨_, rfl, SX.AVto.same rfl⟩, ?_⟩ | refine ⟨⟨_, rfl, SX.AVto.own rfl⟩, ?_⟩ | refine ⟨⟨_, rfl, SX.AVto.nil rfl⟩, ?_⟩ | refine ⟨⟨_, rfl, SX.AVto.int (by first | (with_reducible assumption) | omega | (simp; done) | assumption)⟩, ?_⟩ | refine ⟨⟨_, rfl, SX.AVto.str (by first | (with_reducible assumption) | (simp; done) | assumption)⟩, ?_⟩ | refine ⟨⟨_, rfl, SX.AVto.bool (by first | (with_reducible assumption) | (simp; done) | assumption)⟩, ?_⟩ | refine ⟨⟨_, rfl, SX.AVto.eq (by first | (with_reducible assumption) | (simp [*]; done)) rfl⟩, ?_⟩))); (· (repeat (first | exact trivial | refine ⟨SX.EntTo.row rfl rfl rfl rfl, ?_⟩ | refine ⟨SX.EntTo.row rfl rfl (by first | rfl | (simp; done)) (by first | rfl | assumption | exact SX.flat_snoc rfl | exact SX.flat_one rfl | (simp; done)), ?_⟩ | refine ⟨SX.EntTo.nilRow rfl, ?_⟩ | refine ⟨SX.EntTo.eq rfl rfl rfl, ?_⟩ | refine ⟨SX.EntTo.same rfl rfl, ?_⟩))); (· rfl)) | (apply SX.St.ltnn; (· (intro b h; first | (cases h; done) | exact ⟨rfl, h⟩ | exact SX.fixIs h)); (· (repeat (first | exact trivial | refine ⟨⟨_, rfl, SX.AVto.same rfl⟩, ?_⟩ | refine ⟨⟨_, rfl, SX.AVto.own rfl⟩, ?_⟩ | refine ⟨⟨_, rfl, SX.AVto.nil rfl⟩, ?_⟩ | refine ⟨⟨_, rfl, SX.AVto.int (by first | (with_reducible assumption) | omega | (simp; done) | assumption)⟩, ?_⟩ | refine ⟨⟨_, rfl, SX.AVto.str (by first | (with_reducible assumption) | (simp; done) | assumption)⟩, ?_⟩ | refine ⟨⟨_, rfl, SX.AVto.bool (by first | (with_reducible assumption) | (simp; done) | assumption)⟩, ?_⟩ | refine ⟨⟨_, rfl, SX.AVto.eq (by first | (with_reducible assumption) | (simp [*]; done)) rfl⟩, ?_⟩))); (· (repeat (first | exact trivial | refine ⟨SX.EntTo.row rfl rfl rfl rfl, ?_⟩ | refine ⟨SX.EntTo.row rfl rfl (by first | rfl | (simp; done)) (by first | rfl | assumption | exact SX.flat_snoc rfl | exact SX.flat_one rfl | (simp; done)), ?_⟩ | refine ⟨SX.EntTo.nilRow rfl, ?_⟩ | refine ⟨SX.EntTo.eq rfl rfl rfl, ?_⟩ | refine ⟨SX.EntTo.same rfl rfl, ?_⟩))); (· rfl)) | (apply SX.St.lt11; (· (intro b h; first | (cases h; done) | exact ⟨rfl, h⟩ | exact SX.fixIs h)); (· (repeat (first | exact trivial | refine ⟨⟨_, rfl, SX.AVto.same rfl⟩, ?_⟩ | refine ⟨⟨_, rfl, SX.AVto.own rfl⟩, ?_⟩ | refine ⟨⟨_, rfl, SX.AVto.nil rfl⟩, ?_⟩ | refine ⟨⟨_, rfl, SX.AVto.int (by first | (with_reducible assumption) | omega | (simp; done) | assumption)⟩, ?_⟩ | refine ⟨⟨_, rfl, SX.AVto.str (by first | (with_reducible assumption) | (simp; done) | assumption)⟩, ?_⟩ | refine ⟨⟨_, rfl, SX.AVto.bool (by first | (with_reducible assumption) | (simp; done) | assumption)⟩, ?_⟩ | refine ⟨⟨_, rfl, SX.AVto.eq (by first | (with_reducible assumption) | (simp [*]; done)) rfl⟩, ?_⟩))); (· (repeat (first | exact trivial | refine ⟨SX.EntTo.row rfl rfl rfl rfl, ?_⟩ | refine ⟨SX.EntTo.row rfl rfl (by first | rfl | (simp; done)) (by first | rfl | assumption | exact SX.flat_snoc rfl | exact SX.flat_one rfl | (simp; done)), ?_⟩ | refine ⟨SX.EntTo.nilRow rfl, ?_⟩ | refine ⟨SX.EntTo.eq rfl rfl rfl, ?_⟩ | refine ⟨SX.EntTo.same rfl rfl, ?_⟩))); (· rfl)) | (apply SX.St.ltn1; (· (intro b h; first | (cases h; done) | exact ⟨rfl, h⟩ | exact SX.fixIs h)); (· (repeat (first | exact trivial | refine ⟨⟨_, rfl, SX.AVto.same rfl⟩, ?_⟩ | refine ⟨⟨_, rfl, SX.AVto.own rfl⟩, ?_⟩ | refine ⟨⟨_, rfl, SX.AVto.nil rfl⟩, ?_⟩ | refine ⟨⟨_, rfl, SX.AVto.int (by first | (with_reducible assumption) | omega | (simp; done) | assumption)⟩, ?_⟩ | refine ⟨⟨_, rfl, SX.AVto.str (by first | (with_reducible assumption) | (simp; done) | assumption)⟩, ?_⟩ | refine ⟨⟨_, rfl, SX.AVto.bool (by first | (with_reducible assumption) | (simp; done) | assumption)⟩, ?_⟩ | refine ⟨⟨_, rfl, SX.AVto.eq (by first | (with_reducible assumption) | (simp [*]; done)) rfl⟩, ?_⟩))); (· (repeat (first | exact trivial | refine ⟨SX.EntTo.row rfl rfl rfl rfl, ?_⟩ | refine ⟨SX.EntTo.row rfl rfl (by first | rfl | (simp; done)) (by first | rfl | assumption | exact SX.flat_snoc rfl | exact SX.flat_one rfl | (simp; done)), ?_⟩ | refine ⟨SX.EntTo.nilRow rfl, ?_⟩ | refine ⟨SX.EntTo.eq rfl rfl rfl, ?_⟩ | refine ⟨SX.EntTo.same rfl rfl, ?_⟩))); (· rfl)) | (apply SX.St.lt1n; (· (intro b h; first | (cases h; done) | exact ⟨rfl, h⟩ | exact SX.fixIs h)); (· (repeat (first | exact trivial | refine ⟨⟨_, rfl, SX.AVto.same rfl⟩, ?_⟩ | refine ⟨⟨_, rfl, SX.AVto.own rfl⟩, ?_⟩ | refine ⟨⟨_, rfl, SX.AVto.nil rfl⟩, ?_⟩ | refine ⟨⟨_, rfl, SX.AVto.int (by first | (with_reducible assumption) | omega | (simp; done) | assumption)⟩, ?_⟩ | refine ⟨⟨_, rfl, SX.AVto.str (by first | (with_reducible assumption) | (simp; done) | assumption)⟩, ?_⟩ | refine ⟨⟨_, rfl, SX.AVto.bool (by first | (with_reducible assumption) | (simp; done) | assumption)⟩, ?_⟩ | refine ⟨⟨_, rfl, SX.AVto.eq (by first | (with_reducible assumption) | (simp [*]; done)) rfl⟩, ?_⟩))); (· (repeat (first | exact trivial | refine ⟨SX.EntTo.row rfl rfl rfl rfl, ?_⟩ | refine ⟨SX.EntTo.row rfl rfl (by first | rfl | (simp; done)) (by first | rfl | assumption | exact SX.flat_snoc rfl | exact SX.flat_one rfl | (simp; done)), ?_⟩ | refine ⟨SX.EntTo.nilRow rfl, ?_⟩ | refine ⟨SX.EntTo.eq rfl rfl rfl, ?_⟩ | refine ⟨SX.EntTo.same rfl rfl, ?_⟩))); (· rfl))) :
    ∃ a' b' d', φ a' b' d' ∧ St.le C st (mkSt (I a' b' d') (H a' b' d')) ∧ μ a' b' d' < m := ⟨a0, b0, d0, h1, hle, hm⟩
/-- Two parts of a text meet in a state that is told. -/
theorem W.meet {x y : Code} (I : List (Nat × AV)) (H : List (Nat × Ent)) (h : WP P C x st (thenK (fun s => St.le C s (mkSt I H)) Q)) (k : WP P C y (mkSt I H) Q) : WP P C (.seq x y) st Q := WP.meet (mkSt I H) h k
theorem W.le {I : List (Nat × AV)} {H : List (Nat × Ent)} (hle : St.le C st (mkSt I H) := by first | (apply SX.St.lt0; (· (intro b h; first | (cases h; done) | exact ⟨rfl, h⟩ | exact SX.fixIs h)); (· (repeat (first | exact trivial | refine ⟨⟨_, rfl, SX.AVto.same rfl⟩, ?_⟩ | refine ⟨⟨_, rfl, SX.AVto.own rfl⟩, ?_⟩ | refine ⟨⟨_, rfl, SX.AVto.nil rfl⟩, ?_⟩ | refine ⟨⟨_, rfl, SX.AVto.int (by first | (with_reducible assumption) | omega | (simp; done) | assumption)⟩, ?_⟩ | refine ⟨⟨_, rfl, SX.AVto.str (by first | (with_reducible assumption) | (simp; done) | assumption)⟩, ?_⟩ | refine ⟨⟨_, rfl, SX.AVto.bool (by first | (with_reducible assumption) | (simp; done) | assumption)⟩, ?_⟩ | refine ⟨⟨_, rfl, SX.AVto.eq (by first | (with_reducible assumption) | (simp [*]; done)) rfl⟩, ?_⟩))); (· (repeat (first | exact trivial | refine ⟨SX.EntTo.row rfl rfl rfl rfl, ?_⟩ | refine ⟨SX.EntTo.row rfl rfl (by first | rfl | (simp; done)) (by first | rfl | assumption | exact SX.flat_snoc rfl | exact SX.flat_one rfl | (simp; done)), ?_⟩ | refine ⟨SX.EntTo.nilRow rfl, ?_⟩ | refine ⟨SX.EntTo.eq rfl rfl rfl, ?_⟩ | refine ⟨SX.EntTo.same rfl rfl, ?_⟩))); (· rfl)) | (apply SX.St.ltn; (· (intro b h; first | (cases h; done) | exact ⟨rfl, h⟩ | exact SX.fixIs h)); (· (repeat (first | exact trivial | refine ⟨⟨_, rfl, SX.AVto.same rfl⟩, ?_⟩ | refine ⟨⟨_, rfl, SX.AVto.own rfl⟩, ?_⟩ | refine ⟨⟨_, rfl, SX.AVto.nil rfl⟩, ?_⟩ | refine ⟨⟨_, rfl, SX.AVto.int (by first | (with_reducible assumption) | omega | (simp; done) | assumption)⟩, ?_⟩ | refine ⟨⟨_, rfl, SX.AVto.str (by first | (with_reducible assumption) | (simp; done) | assumption)⟩, ?_⟩ | refine ⟨⟨_, rfl, SX.AVto.bool (by first | (with_reducible assumption) | (simp; done) | assumption)⟩, ?_⟩ | refine ⟨⟨_, rfl, SX.AVto.eq (by first | (with_reducible assumption) | (simp [*]; done)) rfl⟩, ?_⟩))); (· (repeat (first | exact trivial | refine ⟨SX.EntTo.row rfl rfl rfl rfl, ?_⟩ | refine ⟨SX.EntTo.row rfl rfl (by first | rfl | (simp; done)) (by first | rfl | assumption | exact SX.flat_snoc rfl | exact SX.flat_one rfl | (simp; done)), ?_⟩ | refine ⟨SX.EntTo.nilRow rfl, ?_⟩ | refine ⟨SX.EntTo.eq rfl rfl rfl, ?_⟩ | refine ⟨SX.EntTo.same rfl rfl, ?_⟩))); (· rfl)) | (apply SX.St.lt1; (· (intro b h; first | (cases h; done) | exact ⟨rfl, h⟩ | exact SX.fixIs h)); (· (repeat (first | exact trivial | refine ⟨⟨_, rfl, SX.AVto.same rfl⟩, ?_⟩ | refine ⟨⟨_, rfl, SX.AVto.own rfl⟩, ?_⟩ | refine ⟨⟨_, rfl, SX.AVto.nil rfl⟩, ?_⟩ | refine ⟨⟨_, rfl, SX.AVto.int (by first | (with_reducible assumption) | omega | (simp; done) | assumption)⟩, ?_⟩ | refine ⟨⟨_, rfl, SX.AVto.str (by first | (with_reducible assumption) | (simp; done) | assumption)⟩, ?_⟩ | refine ⟨⟨_, rfl, SX.AVto.bool (by first | (with_reducible assumption) | (simp; done) | assumption)⟩, ?_⟩ | refine ⟨⟨_, rfl, SX.AVto.eq (by first | (with_reducible assumption) | (simp [*]; done)) rfl⟩, ?_⟩))); (· (repeat (first | exact trivial | refine ⟨SX.EntTo.row rfl rfl rfl rfl, ?_⟩ | refine ⟨SX.EntTo.row rfl rfl (by first | rfl | (simp; done)) (by first | rfl | assumption | exact SX.flat_snoc rfl | exact SX.flat_one rfl | (simp; done)), ?_⟩ | refine ⟨SX.EntTo.nilRow rfl, ?_⟩ | refine ⟨SX.EntTo.eq rfl rfl rfl, ?_⟩ | refine ⟨SX.EntTo.same rfl rfl, ?_⟩))); (· rfl)) | (apply SX.St.ltnn; (· (intro b h; first | (cases h; done) | exact ⟨rfl, h⟩ | exact SX.fixIs h)); (· (repeat (first | exact trivial | refine ⟨⟨_, rfl, SX.AVto.same rfl⟩, ?_⟩ | refine ⟨⟨_, rfl, SX.AVto.own rfl⟩, ?_⟩ | refine ⟨⟨_, rfl, SX.AVto.nil rfl⟩, ?_⟩ | refine ⟨⟨_, rfl, SX.AVto.int (by first | (with_reducible assumption) | omega | (simp; done) | assumption)⟩, ?_⟩ | refine ⟨⟨_, rfl, SX.AVto.str (by first | (with_reducible assumption) | (simp; done) | assumption)⟩, ?_⟩ | refine ⟨⟨_, rfl, SX.AVto.bool (by first | (with_reducible assumption) | (simp; done) | assumption)⟩, ?_⟩ | refine ⟨⟨_, rfl, SX.AVto.eq (by first | (with_reducible assumption) | (simp [*]; done)) rfl⟩, ?_⟩))); (· (repeat (first | exact trivial | refine ⟨SX.EntTo.row rfl rfl rfl rfl, ?_⟩ | refine ⟨SX.EntTo.row rfl rfl (by first | rfl | (simp; done)) (by first | rfl | assumption | exact SX.flat_snoc rfl | exact SX.flat_one rfl | (simp; done)), ?_⟩ | refine ⟨SX.EntTo.nilRow rfl, ?_⟩ | refine ⟨SX.EntTo.eq rfl rfl rfl, ?_⟩ | refine ⟨SX.EntTo.same rfl rfl, ?_⟩))); (· rfl)) | (apply SX.St.lt11; (· (intro b h; first | (cases h; done) | exact ⟨rfl, h⟩ | exact SX.fixIs h)); (· (repeat (first | exact trivial | refine ⟨⟨_, rfl, SX.AVto.same rfl⟩, ?_⟩ | refine ⟨⟨_, rfl, SX.AVto.own rfl⟩, ?_⟩ | refine ⟨⟨_, rfl, SX.AVto.nil rfl⟩, ?_⟩ | refine ⟨⟨_, rfl, SX.AVto.int (by first | (with_reducible assumption) | omega | (simp; done) | assumption)⟩, ?_⟩ | refine ⟨⟨_, rfl, SX.AVto.str (by first | (with_reducible assumption) | (simp; done) | assumption)⟩, ?_⟩ | refine ⟨⟨_, rfl, SX.AVto.bool (by first | (with_reducible assumption) | (simp; done) | assumption)⟩, ?_⟩ | refine ⟨⟨_, rfl, SX.AVto.eq (by first | (with_reducible assumption) | (simp [*]; done)) rfl⟩, ?_⟩))); (· (repeat (first | exact trivial | refine ⟨SX.EntTo.row rfl rfl rfl rfl, ?_⟩ | refine ⟨SX.EntTo.row rfl rfl (by first | rfl | (simp; done)) (by first | rfl | assumption | exact SX.flat_snoc rfl | exact SX.flat_one rfl | (simp; done)), ?_⟩ | refine ⟨SX.EntTo.nilRow rfl, ?_⟩ | refine ⟨SX.EntTo.eq rfl rfl rfl, ?_⟩ | refine ⟨SX.EntTo.same rfl rfl, ?_⟩))); (· rfl)) | (apply SX.St.ltn1; (· (intro b h; first | (cases h; done) | exact ⟨rfl, h⟩ | exact SX.fixIs h)); (· (repeat (first | exact trivial | refine ⟨⟨_, rfl, SX.AVto.same rfl⟩, ?_⟩ | refine ⟨⟨_, rfl, SX.AVto.own rfl⟩, ?_⟩ | refine ⟨⟨_, rfl, SX.AVto.nil rfl⟩, ?_⟩ | refine ⟨⟨_, rfl, SX.AVto.int (by first | (with_reducible assumption) | omega | (simp; done) | assumption)⟩, ?_⟩ | refine ⟨⟨_, rfl, SX.AVto.str (by first | (with_reducible assumption) | (simp; done) | assumption)⟩, ?_⟩ | refine ⟨⟨_, rfl, SX.AVto.bool (by first | (with_reducible assumption) | (simp; done) | assumption)⟩, ?_⟩ | refine ⟨⟨_, rfl, SX.AVto.eq (by first | (with_reducible assumption) | (simp [*]; done)) rfl⟩, ?_⟩))); (· (repeat (first | exact trivial | refine ⟨SX.EntTo.row rfl rfl rfl rfl, ?_⟩ | refine ⟨SX.EntTo.row rfl rfl (by first | rfl | (simp; done)) (by first | rfl | assumption | exact SX.flat_snoc rfl | exact SX.flat_one rfl | (simp; done)), ?_⟩ | refine ⟨SX.EntTo.nilRow rfl, ?_⟩ | refine ⟨SX.EntTo.eq rfl rfl rfl, ?_⟩ | refine ⟨SX.EntTo.same rfl rfl, ?_⟩))); (· rfl)) | (apply SX.St.lt1n; (· (intro b h; first | (cases h; done) | exact ⟨rfl, h⟩ | exact SX.fixIs h)); (· (repeat (first | exact trivial | refine ⟨⟨_, rfl, SX.AVto.same rfl⟩, ?_⟩ | refine ⟨⟨_, rfl, SX.AVto.own rfl⟩, ?_⟩ | refine ⟨⟨_, rfl, SX.AVto.nil rfl⟩, ?_⟩ | refine ⟨⟨_, rfl, SX.AVto.int (by first | (with_reducible assumption) | omega | (simp; done) | assumption)⟩, ?_⟩ | refine ⟨⟨_, rfl, SX.AVto.str (by first | (with_reducible assumption) | (simp; done) | assumption)⟩, ?_⟩ | refine ⟨⟨_, rfl, SX.AVto.bool (by first | (with_reducible assumption) | (simp; done) | assumption)⟩, ?_⟩ | refine ⟨⟨_, rfl, SX.AVto.eq (by first | (with_reducible assumption) | (simp [*]; done)) rfl⟩, ?_⟩))); (· (repeat (first | exact trivial | refine ⟨SX.EntTo.row rfl rfl rfl rfl, ?_⟩ | refine ⟨SX.EntTo.row rfl rfl (by first | rfl | (simp; done)) (by first | rfl | assumption | exact SX.flat_snoc rfl | exact SX.flat_one rfl | (simp; done)), ?_⟩ | refine ⟨SX.EntTo.nilRow rfl, ?_⟩ | refine ⟨SX.EntTo.eq rfl rfl rfl, ?_⟩ | refine ⟨SX.EntTo.same rfl rfl, ?_⟩))); (· rfl))) : St.le C st (mkSt I H) := hle
end
end SX
/- The run at one word, over whole numbers. No program in sight. -/
set_option linter.unusedVariables false
set_option linter.unusedSimpArgs false
namespace SX
open Go Go.RowKit
section
variable {P : Program} {C : Ctx} {st : St}
variable {ops rest : List Oper} {acc : List (List Nat × List Nat)} {K : List (List Nat × List Nat) → St → Prop} {dst : Option Tmp} {d : Tmp} {op : Op} {ty t t' : TypeId} {x y z : Operand}
theorem G.loadMO {e : TypeId} {b n size off : Nat} {c : CA} {cells : List CA} [ht : TOne P t] (next : Reg P C ops rest (st.app dst ⟨.it (.one (.c c)), []⟩) (([b], []) :: acc) K) (hd : dstOK dst C.nt = true := by rfl) (hx : st.ev x = some (.it (.one (.rptr b off))) := by rfl) (hb : st.hp b = .ent (.row e size n cells) := by rfl) (hc : cells[off]? = some c := by first | exact load_map (by assumption) | exact load_mapO (by assumption)) : Go1 P C ops dst (.load t x) ty rest st acc K :=
  Go1.loadO1 hd hx hb hc next
theorem G.loadM1 {c : CA} {cells : List CA} [ht : TOne P t] (next : Reg P C ops rest (st.app dst ⟨.it (.one (.c c)), []⟩) (([], []) :: acc) K) (hd : dstOK dst C.nt = true := by rfl) (hx : st.ev x = some (.r (ptrR cells)) := by rfl) (hl : cells[0]? = some c := by first | exact load_map (by assumption) | exact load_mapO (by assumption)) : Go1 P C ops dst (.load t x) ty rest st acc K :=
  Go1.loadR1 hd hx hl next
theorem G.indexAddrZ {e : TypeId} {size n i : Nat} {k : IntKind} {cells : List CA} {r : Rep} [ht : TSlice P t e size] (next : Reg P C ops rest (st.app dst ⟨.r (ptrR ((cells.drop (i * size)).take size)), []⟩) (([], []) :: acc) K) (hd : dstOK dst C.nt = true := by rfl) (hx : st.ev x = some (.r r) := by rfl) (hr : AsSlice r size n cells := by infer_instance) (hy : st.ev y = some (.v (.int k (i : Int))) := by rfl) (hi : i < n := by omega) : Go1 P C ops dst (.indexAddr t x y) ty rest st acc K :=
  Go1.indexAddrR hd hx hy hi next
theorem G.sliceHiZ {i : Int} {e : TypeId} {size n : Nat} {k : IntKind} {cells : List CA} {r : Rep} [ht : TSlice P t e size] (next : Reg P C ops rest (st.app dst ⟨.r (sliceR size i.toNat (cells.take (i.toNat * size))), []⟩) (([], []) :: acc) K) (hd : dstOK dst C.nt = true := by rfl) (hx : st.ev x = some (.r r) := by rfl) (hr : AsSlice r size n cells := by infer_instance) (hy : st.ev y = some (.v (.int k i)) := by rfl) (h0 : 0 ≤ i := by omega) (h1 : i ≤ (n : Int) := by omega) : Go1 P C ops dst (.slice t x none (some y) none) ty rest st acc K :=
  Go1.sliceHiR hd hx hy h0 h1 next
theorem G.sliceLoZ {i : Int} {e : TypeId} {size n : Nat} {k : IntKind} {cells : List CA} {r : Rep} [ht : TSlice P t e size] (next : Reg P C ops rest (st.app dst ⟨.r (sliceR size (n - i.toNat) (cells.drop (i.toNat * size))), []⟩) (([], []) :: acc) K) (hd : dstOK dst C.nt = true := by rfl) (hx : st.ev x = some (.r r) := by rfl) (hr : AsSlice r size n cells := by infer_instance) (hy : st.ev y = some (.v (.int k i)) := by rfl) (h0 : 0 ≤ i := by omega) (h1 : i ≤ (n : Int) := by omega) : Go1 P C ops dst (.slice t x (some y) none none) ty rest st acc K :=
  Go1.sliceLoR hd hx hy h0 h1 next
theorem G.sliceHiP {i : Int} {e : TypeId} {b n size : Nat} {k : IntKind} {cells : List CA} [ht : TSlice P t e size] (next : Reg P C ops rest (st.app (some d) ⟨.own d, [(b, .gone), (d, .ent (.row e size i.toNat (cells.take (i.toNat * size))))]⟩) (([b, d], [b, d]) :: acc) K) (hd : dstOK (some d) C.nt = true := by rfl) (hx : st.ev x = some (.own b) := by rfl) (hb : st.hp b = .ent (.row e size n cells) := by rfl) (hf : st.hp d = .free := by rfl) (hy : st.ev y = some (.v (.int k i)) := by rfl) (h0 : 0 ≤ i := by omega) (h1 : i ≤ (n : Int) := by omega) : Go1 P C ops (some d) (.slice t x none (some y) none) ty rest st acc K :=
  Go1.sliceHiO hd hx hb hf hy h0 h1 next
end
/-- The run, as far as it goes. -/
structure HeldZ (q : Prop) : Prop where
  out : q
theorem goZ {p q : Prop} (h : q) (k : HeldZ q → p := by
    intro h
    (first
      | (refine SX.Go1.is ?_; first
          | (refine SX.Go1.isLoad ?_; first | refine SX.G.load2 ?_ | refine SX.G.load1 ?_ | refine SX.G.loadR1 ?_ | refine SX.G.loadR2 ?_ | refine SX.G.load4 ?_ | refine SX.G.loadR4 ?_ | refine SX.G.load3 ?_ | refine SX.G.loadR3 ?_ | refine SX.G.loadM1 ?_ | refine SX.G.loadO1 ?_ | refine SX.G.loadMO ?_)
          | (refine SX.Go1.isBin ?_; first | refine SX.G.lss ?_ | refine SX.G.eql ?_ | refine SX.G.neq ?_ | refine SX.G.gtr ?_ | refine SX.G.geq ?_ | refine SX.G.leq ?_ | refine SX.G.add ?_ | refine SX.G.sub ?_ | refine SX.G.mul ?_ | refine SX.G.quo ?_ | refine SX.G.rem ?_ | refine SX.G.eqlB ?_ | refine SX.G.neqB ?_ | refine SX.G.shr ?_ | refine SX.G.shl ?_ | refine SX.G.and ?_)
          | (refine SX.Go1.isUn ?_; first | refine SX.G.not ?_ | refine SX.G.neg ?_)
          | (refine SX.Go1.isField ?_; first | refine SX.G.fieldAddr ?_ | refine SX.G.fieldAddrR ?_)
          | (refine SX.Go1.isBuild ?_; first | refine SX.G.build2 ?_ | refine SX.G.build3 ?_ | refine SX.G.build4 ?_ | refine SX.G.build ?_)
          | (refine SX.Go1.isStore ?_; first | refine SX.G.store ?_)
          | (refine SX.Go1.isIx ?_; first | refine SX.G.indexAddrZ ?_ | refine SX.G.indexAddrO ?_)
          | (refine SX.Go1.isBuildS ?_; first | refine SX.G.lit1 ?_)
          | (refine SX.Go1.isCall ?_; first | refine SX.G.lenR ?_ | refine SX.G.lenN ?_ | refine SX.G.lenS ?_ | refine SX.G.lenO ?_ | refine SX.G.appendW ?_ | refine SX.G.appendNilW ?_)
          | refine SX.G.move ?_ | refine SX.G.assign ?_ | refine SX.G.extract ?_ | refine SX.G.box ?_ | refine SX.G.alloc ?_ | refine SX.G.pick ?_ | refine SX.G.pickHT ?_ | refine SX.G.pickHF ?_ | refine SX.G.pickB ?_ | refine SX.G.pickV ?_ | refine SX.G.conv ?_ | refine SX.G.sliceHiZ ?_ | refine SX.G.sliceLoZ ?_ | refine SX.G.sliceHiP ?_ | refine SX.G.sliceHiS ?_ | refine SX.G.sliceLoS ?_ | refine SX.G.sliceLHS ?_ | refine SX.G.indexS ?_)
      | (refine SX.Reg.is ?_; first | refine SX.Reg.go ?_ | refine SX.Reg.goT rfl rfl rfl ?_ | refine SX.Reg.goF rfl rfl rfl ?_ | refine SX.Reg.goU rfl rfl ?_ | refine SX.Reg.goT rfl rfl (by first | (with_reducible assumption) | assumption) ?_ | refine SX.Reg.goF rfl rfl (by first | (with_reducible assumption) | assumption) ?_ | refine SX.Reg.nil ⟨by kernel_rfl, ?_⟩ | refine SX.Reg.nil ?_)
      | (refine SX.WP.is ?_; first | refine SX.WP.seq ?_ | refine SX.WP.regionL ?_ | refine SX.WP.regionDL (by kernel_rfl) ?_ | refine SX.WP.block ?_ | refine SX.WP.skip ?_ | refine SX.WP.exit ?_ | refine SX.WP.ret ?_ | refine SX.WP.label ?_ | refine SX.WP.condT rfl ?_ | refine SX.WP.condF rfl ?_ | refine SX.WP.condHT rfl (by first | (with_reducible assumption) | assumption) ?_ | refine SX.WP.condHF rfl (by first | (with_reducible assumption) | assumption) ?_)
      | refine SX.thenN ?_ | refine SX.thenE ?_ | refine SX.thenR ?_ | refine SX.inBlkN ?_ | refine SX.inBlkR ?_ | refine SX.inBlkE ?_ | refine SX.inBlkO rfl ?_ | refine SX.retR ?_ | refine SX.retN ?_)
    repeat (first
      | (refine SX.Go1.is ?_; first
          | (refine SX.Go1.isLoad ?_; first | refine SX.G.load2 ?_ | refine SX.G.load1 ?_ | refine SX.G.loadR1 ?_ | refine SX.G.loadR2 ?_ | refine SX.G.load4 ?_ | refine SX.G.loadR4 ?_ | refine SX.G.load3 ?_ | refine SX.G.loadR3 ?_ | refine SX.G.loadM1 ?_ | refine SX.G.loadO1 ?_ | refine SX.G.loadMO ?_)
          | (refine SX.Go1.isBin ?_; first | refine SX.G.lss ?_ | refine SX.G.eql ?_ | refine SX.G.neq ?_ | refine SX.G.gtr ?_ | refine SX.G.geq ?_ | refine SX.G.leq ?_ | refine SX.G.add ?_ | refine SX.G.sub ?_ | refine SX.G.mul ?_ | refine SX.G.quo ?_ | refine SX.G.rem ?_ | refine SX.G.eqlB ?_ | refine SX.G.neqB ?_ | refine SX.G.shr ?_ | refine SX.G.shl ?_ | refine SX.G.and ?_)
          | (refine SX.Go1.isUn ?_; first | refine SX.G.not ?_ | refine SX.G.neg ?_)
          | (refine SX.Go1.isField ?_; first | refine SX.G.fieldAddr ?_ | refine SX.G.fieldAddrR ?_)
          | (refine SX.Go1.isBuild ?_; first | refine SX.G.build2 ?_ | refine SX.G.build3 ?_ | refine SX.G.build4 ?_ | refine SX.G.build ?_)
          | (refine SX.Go1.isStore ?_; first | refine SX.G.store ?_)
          | (refine SX.Go1.isIx ?_; first | refine SX.G.indexAddrZ ?_ | refine SX.G.indexAddrO ?_)
          | (refine SX.Go1.isBuildS ?_; first | refine SX.G.lit1 ?_)
          | (refine SX.Go1.isCall ?_; first | refine SX.G.lenR ?_ | refine SX.G.lenN ?_ | refine SX.G.lenS ?_ | refine SX.G.lenO ?_ | refine SX.G.appendW ?_ | refine SX.G.appendNilW ?_)
          | refine SX.G.move ?_ | refine SX.G.assign ?_ | refine SX.G.extract ?_ | refine SX.G.box ?_ | refine SX.G.alloc ?_ | refine SX.G.pick ?_ | refine SX.G.pickHT ?_ | refine SX.G.pickHF ?_ | refine SX.G.pickB ?_ | refine SX.G.pickV ?_ | refine SX.G.conv ?_ | refine SX.G.sliceHiZ ?_ | refine SX.G.sliceLoZ ?_ | refine SX.G.sliceHiP ?_ | refine SX.G.sliceHiS ?_ | refine SX.G.sliceLoS ?_ | refine SX.G.sliceLHS ?_ | refine SX.G.indexS ?_)
      | (refine SX.Reg.is ?_; first | refine SX.Reg.go ?_ | refine SX.Reg.goT rfl rfl rfl ?_ | refine SX.Reg.goF rfl rfl rfl ?_ | refine SX.Reg.goU rfl rfl ?_ | refine SX.Reg.goT rfl rfl (by first | (with_reducible assumption) | assumption) ?_ | refine SX.Reg.goF rfl rfl (by first | (with_reducible assumption) | assumption) ?_ | refine SX.Reg.nil ⟨by kernel_rfl, ?_⟩ | refine SX.Reg.nil ?_)
      | (refine SX.WP.is ?_; first | refine SX.WP.seq ?_ | refine SX.WP.regionL ?_ | refine SX.WP.regionDL (by kernel_rfl) ?_ | refine SX.WP.block ?_ | refine SX.WP.skip ?_ | refine SX.WP.exit ?_ | refine SX.WP.ret ?_ | refine SX.WP.label ?_ | refine SX.WP.condT rfl ?_ | refine SX.WP.condF rfl ?_ | refine SX.WP.condHT rfl (by first | (with_reducible assumption) | assumption) ?_ | refine SX.WP.condHF rfl (by first | (with_reducible assumption) | assumption) ?_)
      | refine SX.thenN ?_ | refine SX.thenE ?_ | refine SX.thenR ?_ | refine SX.inBlkN ?_ | refine SX.inBlkR ?_ | refine SX.inBlkE ?_ | refine SX.inBlkO rfl ?_ | refine SX.retR ?_ | refine SX.retN ?_)
    exact h.out) : p := k ⟨h⟩
end SX
/- What a call answers as its caller's own row; bytes and texts. No program in sight. -/
set_option linter.unusedVariables false
set_option linter.unusedSimpArgs false
namespace SX
open Go Go.RowKit
section
variable {P : Program}
/-- A call that answers a new row, which is its caller's own. -/
def OwnOK (P : Program) (f : FuncId) (args : List AV) (t : TypeId) (size n : Nat) (cells : List CA) : Prop := CallOK P f args [] ⟨.own 100, [(100, .ent (.row t size n cells))]⟩
theorem OwnOK.at {f : FuncId} {args : List AV} {t : TypeId} {size n : Nat} {cells : List CA} (h : OwnOK P f args t size n cells) (d : Nat) : CallOK P f args [] ⟨.own d, [(d, .ent (.row t size n cells))]⟩ := by
  refine ⟨h.1, fun E S w vs hl hg hv h1 h2 h3 => (h.2 E S w vs hl hg hv (fun b e hb => by cases hb) (fun b e k hb => by cases hb) (fun b b' e e' k _ hb => by cases hb)).mono ?_⟩
  rintro e w' ⟨v, E', S', rfl, hE⟩
  have hres : v = E'.sl 100 ∧ v.oneCell' = true := hE.res
  obtain ⟨us, hown, hall⟩ := hE.ents 100 (.row t size n cells) (by simp)
  refine ⟨v, ⟨E.blk, upd E.sl d (E'.sl 100), E.fp⟩, S', rfl, { env := fun b hb => ?_, fpe := fun _ _ => rfl, sub := hE.sub, new := hE.new, lt := hE.lt, off := hE.off, res := ?_, ents := fun b e hb => ?_, blk := fun b e k hb hk => ?_, sep := fun b b' e e' k hne hb hb' => ?_ }⟩
  · by_cases hbd : b = d
    · subst hbd
      obtain ⟨e, he⟩ := hb ⟨_, by simp; rfl⟩
      cases he
    · exact ⟨rfl, upd_ne _ _ hbd⟩
  · show v = upd E.sl d (E'.sl 100) d ∧ _
    rw [upd_same]; exact hres
  · simp at hb; obtain ⟨rfl, rfl⟩ := hb
    refine ⟨us, ?_, hall⟩
    show w'.ownsRow 0 t size (upd E.sl b (E'.sl 100) b) n us
    rw [upd_same]; exact hown
  · simp at hb; obtain ⟨rfl, rfl⟩ := hb
    have hk' : (upd E.sl b (E'.sl 100) b).ownBlock = some k := hk
    rw [upd_same] at hk'
    exact hE.blk 100 (.row t size n cells) k (by simp) hk'
  · simp at hb hb'; exact absurd (hb.1.trans hb'.1.symm) hne
/-- The same, where the row is written no more. -/
theorem OwnOK.pure {f : FuncId} {args : List AV} {t : TypeId} {size n : Nat} {cells : List CA} (h : OwnOK P f args t size n cells) : PureOK P f args (.r (sliceR size n cells)) := by
  refine ⟨h.1, fun E S w vs hl hg hv h1 h2 h3 => (h.2 E S w vs hl hg hv (fun b e hb => by cases hb) (fun b e k hb => by cases hb) (fun b b' e e' k _ hb => by cases hb)).mono ?_⟩
  rintro e w' ⟨v, E', S', rfl, hE⟩
  have hres : v = E'.sl 100 ∧ v.oneCell' = true := hE.res
  obtain ⟨us, hown, hall⟩ := hE.ents 100 (.row t size n cells) (by simp)
  have hnew : ∀ k, (E'.sl 100).ownBlock = some k → w.heap.size ≤ k := fun k hk => by
    rcases (hE.blk 100 (.row t size n cells) k (by simp) hk).2 with ⟨b, e, hb, _⟩ | h
    · cases hb
    · exact h
  have hlen : cells.length = n * size := by rw [hall.length, hown.1]
  refine ⟨v, E, fun k => S' k ∧ (E'.sl 100).ownBlock ≠ some k, rfl, { env := fun b hb => ⟨rfl, rfl⟩, fpe := fun _ _ => rfl, sub := fun k hk => ⟨hE.sub k hk, fun h => ?_⟩, new := fun k hk => hE.new k hk.1, lt := fun k hk => hE.lt k hk.1, off := hE.off, res := ?_, ents := fun b e hb => (by cases hb), blk := fun b e k hb => (by cases hb), sep := fun b b' e e' k _ hb => (by cases hb) }⟩
  · have := hnew k h
    have := hl k hk
    omega
  · show (sliceR size n cells).has _ w' v
    rw [hres.1]
    rcases hown.2 with ⟨hv, h0⟩ | ⟨g, cap, cur, hv, _, hg, hn, hm, hcs, htk⟩
    · refine sliceR_iff.2 ⟨none, 0, by rw [hv, h0], by omega, Nat.zero_le _, fun _ => rfl, hlen, fun i c hc => ?_⟩
      have : cells.length = 0 := by rw [hlen, h0, Nat.zero_mul]
      rw [List.eq_nil_of_length_eq_zero this] at hc
      simp at hc
    · refine sliceR_iff.2 ⟨some ⟨g, 0, none⟩, cap, hv, hn, hm, (fun h => by cases h), hlen, fun i c hc => ?_⟩
      obtain ⟨u, hu, huc⟩ := hall.get hc
      have hown' := hown
      rw [hv] at hown'
      have hcell := hown'.cells (g := g) rfl i u hu
      refine ⟨g, 0, u, rfl, fun h => h.2 (by rw [hv]; rfl), by simpa [Addr.add_lit] using hcell, huc.step (Off.refl S' w') (fun k hk => .inl hk.1)⟩
/-- A contract of this kind that is found by its function and its arguments. -/
class ConO (P : Program) (f : FuncId) (args : List AV) (pre : outParam Prop) (t : outParam TypeId) (size n : outParam Nat) (cells : outParam (List CA)) : Prop where
  h : pre → OwnOK P f args t size n cells
theorem ConO.use {f : FuncId} {args : List AV} {pre : Prop} {t : TypeId} {size n : Nat} {cells : List CA} [c : ConO P f args pre t size n cells] (h : pre) : OwnOK P f args t size n cells := c.h h
open Classical in
theorem OwnOK.fnF {f : FuncId} {fn : Func} {c : Code} {args : List AV} {t : TypeId} {size n : Nat} {cells : List CA} {nt : Nat} {rs : List ResultVar} (hf : P.funcs[f]? = some fn) (hres : fn.results = rs.toArray) (hnt : fn.ntmps = nt) (hb : fn.body = some c) (hn : (fn.name == "runtime.NumGoroutine") = false) (hna : Nat.ble args.length nt = true)
    (haid : ∀ v ∈ args, v.ids = []) (h : ∀ (w0 : World) (T B : Nat → Prop) (E0 : Env), (∀ k, ¬ B k) → WP P ⟨w0, T, B, nt, E0, fun _ => false⟩ c ⟨fun t => args[t]?, fun _ => .free⟩ (SX.retF ⟨w0, T, B, nt, E0, fun _ => false⟩ P rs ⟨.own 100, [(100, .ent (.row t size n cells))]⟩)) : OwnOK P f args t size n cells :=
  CallOK.fn hf hres hnt hb hn hna (fun b e hb => by cases hb) (fun v hv i hi => by rw [haid v hv] at hi; cases hi) (fun b e hb => by cases hb) (fun b e hb => by cases hb)
    (fun i hi => by
      right
      rcases hi with hi | ⟨b, e, hb, hi⟩
      · have : i = 100 := by simpa [AV.ids, AV0.ids, Atom.ids] using hi
        subst this; exact ⟨_, by simp; rfl⟩
      · simp at hb; obtain ⟨rfl, rfl⟩ := hb; cases hi) (fun w0 T B E0 hB => WP.retF (h w0 T B E0 fun k hk => let ⟨_, _, hb, _⟩ := hB k hk; by cases hb))
end
section
variable {P : Program} {C : Ctx} {st : St}
variable {ops rest : List Oper} {acc : List (List Nat × List Nat)} {K : List (List Nat × List Nat) → St → Prop} {dst : Option Tmp} {d : Tmp} {op : Op} {ty t t' : TypeId} {x y z : Operand} {k k' : IntKind} {i j : Nat} {za zb zi zj : Int}
theorem G.callOwn {f : FuncId} {as : Array Operand} {tys : Array TypeId} {args : List AV} {e : TypeId} {size n : Nat} {cells : List CA} (next : Reg P C ops rest (st.app (some d) ⟨.own d, [(d, .ent (.row e size n cells))]⟩) (([d], [d]) :: acc) K) (ha : evs st as.toList = some args := by rfl)
    (hc : OwnOK P f args e size n cells := by first | (with_reducible assumption) | assumption | exact SX.ConO.use (by first | trivial | omega | assumption | (refine ⟨?_, ?_⟩ <;> first | omega | assumption) | (refine ⟨?_, ?_, ?_⟩ <;> first | omega | assumption))) (hd : dstOK (some d) C.nt = true := by rfl) (hf : st.hp d = .free := by rfl) : Go1 P C ops (some d) (.call ⟨.value (.func f), as, tys⟩) ty rest st acc K :=
  Go1.callG (cap := []) (pre := []) (out := ⟨.own d, [(d, .ent (.row e size n cells))]⟩) (fp := [d]) hd rfl ha (by simpa using hc.at d) (fun b e hb => by cases hb) (fun b s hb => by simp at hb; rw [hb.1]; exact .inr hf) (fun b s hb => by simp at hb; rw [hb.2]; rfl) (fun b s hb => by simp at hb; simp [hb.1])
    (fun i hi => by
      left
      rcases hi with hi | ⟨b, e, hb, hi⟩
      · have : i = d := by simpa [AV.ids, AV0.ids, Atom.ids] using hi
        subst this; exact ⟨_, by simp; rfl⟩
      · simp at hb; obtain ⟨rfl, rfl⟩ := hb; cases hi) next
theorem G.makeN {e : TypeId} {n bytes : Nat} {z : Value} [ht : TSlice P t e 1] [he : TElem P e [z] bytes] (next : Reg P C ops rest (st.app (some d) ⟨.own d, [(d, .ent (.row e 1 n (List.replicate n (.val z))))]⟩) (([d], [d]) :: acc) K) (hd : dstOK (some d) C.nt = true := by rfl) (hx : st.ev x = some (.v (.int k zi)) := by rfl) (hx0 : zi = (n : Int) := by first | with_reducible rfl | exact SX.litN _ | rfl) (hy : st.ev y = some (.v (.int k' zj)) := by rfl) (hy0 : zj = (n : Int) := by first | with_reducible rfl | exact SX.litN _ | rfl) (hf : st.hp d = .free := by rfl)
    (hb : n * bytes ≤ 140737488355328 := by omega) (hm : n ≤ 9223372036854775807 := by omega) : Go1 P C ops (some d) (.makeSlice t x y) ty rest st acc K :=
  Go1.make hd (evz hx hx0) (evz hy hy0) hf hb hm next
theorem G.storeP {e : TypeId} {b off n size : Nat} {cells : List CA} {c : CA} [ht : TOne P t] (next : Reg P C ops rest (st.app none ⟨.v undef, [(b, .ent (.row e size n (spl cells off [c])))]⟩) (([b], [b]) :: acc) K) (hx : st.ev x = some (.it (.one (.rptr b off))) := by rfl) (hy : st.ev y = some (.it (.one (.c c))) := by rfl) (hb : st.hp b = .ent (.row e size n cells) := by rfl) (hl : off + 1 ≤ n * size := by omega)
    (h1 : [Atom.c c].all Atom.oneB = true := by rfl) : Go1 P C ops none (.store t x y) ty rest st acc K :=
  Go1.storeO (m := 1) ht.s hx hy hb rfl hl h1 rfl rfl next
theorem Go1.addT {l m : List UInt8} (hd : dstOK dst C.nt = true) (hx : st.ev x = some (.v (str l))) (hy : st.ev y = some (.v (str m))) (hb : l.length + m.length ≤ 9223372036854775807) (next : Reg P C ops rest (st.app dst ⟨.v (str (l ++ m)), []⟩) (([], []) :: acc) K) : Go1 P C ops dst (.binOp .add t x y t') ty rest st acc K :=
  Go1.val2 hd rfl hx hy (fun ρ o w ho h1 h2 => by
    unfold execOp; rw [ho]
    have hap : (⟨⟨l⟩⟩ : ByteArray) ++ ⟨⟨m⟩⟩ = ⟨⟨l ++ m⟩⟩ := by
      apply ByteArray.ext; simp
    have hl2 : (((⟨⟨l⟩⟩ : ByteArray).size : Nat) : Int) + (((⟨⟨m⟩⟩ : ByteArray).size : Nat) : Int) ≤ 9223372036854775807 := by
      show ((l.length : Nat) : Int) + ((m.length : Nat) : Int) ≤ 9223372036854775807
      omega
    simp [h1, h2, eqGuard, binOp, Op.stringOp, hap]
    exact hl2) next
theorem G.addT {l m : List UInt8} (next : Reg P C ops rest (st.app dst ⟨.v (str (l ++ m)), []⟩) (([], []) :: acc) K) (hd : dstOK dst C.nt = true := by rfl) (hx : st.ev x = some (.v (str l)) := by rfl) (hy : st.ev y = some (.v (str m)) := by rfl) (hb : l.length + m.length ≤ 9223372036854775807 := by (try simp only [List.length_cons, List.length_nil, List.length_append]); omega) : Go1 P C ops dst (.binOp .add t x y t') ty rest st acc K :=
  Go1.addT hd hx hy hb next
/-- A mark: the slice that this place makes is to be the call's own. -/
structure OwnLit (d : Nat) : Prop where
theorem G.litOwn {e : TypeId} {size bytes : Nat} {zs : List Value} {v : AV0} {m : List CA} [ht : TSlice P t e size] [he : TElem P e zs bytes] (next : Reg P C ops rest (st.app (some d) ⟨.own d, [(d, .ent (.row e size 1 m))]⟩) (([d], [d]) :: acc) K) (hown : OwnLit d := by assumption) (hd : dstOK (some d) C.nt = true := by rfl) (hf : st.hp d = .free := by rfl) (hx : st.ev x = some (.it v) := by rfl) (hc : closedL v.cells = some m := by rfl)
    (hm : (Nat.beq m.length size && Nat.ble size 1000 && v.cells.all Atom.oneB) = true := by rfl) : Go1 P C ops (some d) (.buildSlice t 1 #[(0, x)]) ty rest st acc K := by
  simp only [Bool.and_eq_true] at hm
  obtain ⟨⟨h1, h2⟩, h3⟩ := hm
  have hl : m.length = size := Nat.eq_of_beq_eq_true h1
  have h2' : size ≤ 1000 := by simpa [Nat.ble_eq] using h2
  have hvl : v.cells.length = size := by rw [← closedL_len hc]; exact hl
  refine Go1.buildSlice (ps := [(0, v)]) (l := v.cells) (m := m) hd hf (by simp only [evp, hx]) ?_ ?_ ?_ hc ?_ next
  · simp only [List.all_cons, List.all_nil, Bool.and_true, h3, Bool.true_and]; rfl
  · rw [Nat.one_mul, Nat.ble_eq]; omega
  · have hpl : (placesOf 1 size)[0]? = some (0, size) := by simp [placesOf]
    have hz : ((madeCells zs.toArray (1 * size)).toList.map fun v => Atom.c (.val v)).length = size := by simp [size_madeCells]
    have e1 : Nat.beq v.cells.length size = true := by rw [hvl]; exact Nat.beq_refl _
    simp only [fillA, hpl]
    rw [hz, e1, Nat.zero_add, show Nat.ble size size = true by rw [Nat.ble_eq]; exact Nat.le_refl _]
    simp only [Bool.and_self]
    rw [spl_eq _ _ _ (by rw [hz, hvl]; omega), hvl, List.take_zero, List.nil_append, Nat.zero_add, List.drop_of_length_le (by rw [hz]; exact Nat.le_refl _), List.append_nil]
  · rw [hl, Nat.one_mul]; exact Nat.beq_refl _
theorem flat1_get {α : Type} {enc : α → List CA} [EncLen enc 1] {l : List α} {i : Nat} {a : α} {c : CA} (he : enc a = [c]) (ha : l[i]? = some a) : (l.flatMap enc)[i * 1]? = some c := by
  have hf := flat_at (enc := enc) ha
  rw [he] at hf
  have := congrArg (·[0]?) hf
  simpa [List.getElem?_take, List.getElem?_drop] using this
theorem G.loadOW {α : Type} {enc : α → List CA} {l : List α} {a : α} {e : TypeId} {b n size : Nat} {c : CA} [ht : TOne P t] [hz : EncLen enc 1] (next : Reg P C ops rest (st.app dst ⟨.it (.one (.c c)), []⟩) (([b], []) :: acc) K) (hd : dstOK dst C.nt = true := by rfl) (hx : st.ev x = some (.it (.one (.rptr b (i * 1)))) := by rfl) (hb : st.hp b = .ent (.row e size n (l.flatMap enc)) := by rfl) (ha : l[i]? = some a := by assumption) (he : enc a = [c] := by rfl) : Go1 P C ops dst (.load t x) ty rest st acc K :=
  Go1.loadO1 hd hx hb (flat1_get he ha) next
instance : WrapN .u8 255 := ⟨fun m h => by show IntKind.wrap .u8 (m : Int) = m; rw [IntKind.wrap_u8]; omega⟩
theorem G.convN {a b : Nat} [h1 : TInt P t k] [h2 : TInt P t' k'] [hw : WrapN k' b] (next : Reg P C ops rest (st.app dst ⟨.v (.int k' ((a : Nat) : Int)), []⟩) (([], []) :: acc) K) (hd : dstOK dst C.nt = true := by rfl) (hx : st.ev x = some (.v (.int k za)) := by rfl) (hx0 : za = (a : Int) := by first | with_reducible rfl | exact SX.litN _ | rfl) (hb : a ≤ b := by first | omega | assumption) : Go1 P C ops dst (.convert t t' x) ty rest st acc K :=
  Go1.conv hd (evz hx hx0) (hw.h a hb) next
/-- A byte. -/
def bytC (b : UInt8) : List CA := [.val (.int .u8 (b.toNat : Int))]
instance : EncLen bytC 1 := ⟨fun _ => rfl⟩
instance : EncOne bytC := ⟨fun _ => rfl⟩
theorem pushes : ∀ (l : List UInt8) (s : ByteArray), ((l.map fun b => (b.toNat : Int)).foldl (fun r n => r.push (UInt8.ofNat n.toNat)) s).data.toList = s.data.toList ++ l
  | [], s => by simp
  | b :: l, s => by
    rw [List.map_cons, List.foldl_cons, pushes l]
    simp
theorem G.convBS {e : TypeId} {l : List UInt8} {r : Rep} [h1 : TSlice P t e 1] [h2 : TInt P e .u8] [h3 : TStr P t'] (next : Reg P C ops rest (st.app dst ⟨.v (str l), []⟩) (([], []) :: acc) K) (hd : dstOK dst C.nt = true := by rfl) (hx : st.ev x = some (.r r) := by rfl) (hr : AsRow r 1 bytC l := by infer_instance) : Go1 P C ops dst (.convert t t' x) ty rest st acc K :=
  Go1.pureV [] [] (by simp) hd (by simp) (fun o ho _ st' E S a w hev hs _ => by
    obtain ⟨h4, _⟩ := hs.ev ((hev x (by simp [ho, Op.operands])).trans hx)
    obtain ⟨oa, cap, hv, hn, hc, h0, hlen, hcell⟩ := sliceR_iff.1 (hr.h _ _ _ h4)
    refine ⟨fun i hi => (by cases hi), .string ⟨⟨l⟩⟩, ?_, rfl⟩
    unfold execOp; rw [ho]
    have hcv : (convert t t' (a.eval x)).run P w = (Conv.bytesToString (a.eval x)).run P w := by
      rw [hv]
      simp [convert, run_underlying h1.h, run_underlying h2.h, run_underlying h3.h]
    have hrun : (Conv.bytesToString (a.eval x)).run P w = .ok (.string ⟨⟨l⟩⟩) w := by
      rw [hv]
      cases oa with
      | none =>
        have h00 := h0 rfl
        have : l = [] := List.eq_nil_of_length_eq_zero (by have := hn; omega)
        subst this; rfl
      | some ad =>
        rw [run_bytesToString w ad l.length cap (l.map fun b => (b.toNat : Int))]
        · congr 2
          exact ByteArray.ext (Array.ext' (by rw [pushes]; rfl))
        · have hl1 : ((l.map fun b => (b.toNat : Int)).map (Value.int .u8)).length = l.length := by simp
          have := run_loadCells_list (P := P) (w := w) ad ((l.map fun b => (b.toNat : Int)).map (Value.int .u8)) (fun j v hj => by
            rw [List.map_map, List.getElem?_map] at hj
            obtain ⟨b, hb, rfl⟩ := Option.map_eq_some_iff.1 hj
            have hf := flat1_get (enc := bytC) (c := .val (.int .u8 (b.toNat : Int))) rfl hb
            rw [Nat.mul_one] at hf
            obtain ⟨bk, off, u, e1, _, e2, e3⟩ := hcell j _ hf
            cases e1
            rw [Addr.add_lit, e2, show u = _ from e3]; rfl)
          rwa [hl1] at this
    simp [hcv, hrun]) next
theorem retO {t : Tmp} {e : TypeId} {size n : Nat} {cells : List CA} (hle : St.le C st (mkSt [(t, .own 100)] [(100, .row e size n cells)]) := by first | (apply SX.St.lt0; (· (intro b h; first | (cases h; done) | exact ⟨rfl, h⟩ | exact SX.fixIs h)); (· (repeat (first | exact trivial | refine ⟨⟨_, rfl, SX.AVto.same rfl⟩, ?_⟩ | refine ⟨⟨_, rfl, SX.AVto.own rfl⟩, ?_⟩ | refine ⟨⟨_, rfl, SX.AVto.nil rfl⟩, ?_⟩ | refine ⟨⟨_, rfl, SX.AVto.int (by first | (with_reducible assumption) | omega | (simp; done) | assumption)⟩, ?_⟩ | refine ⟨⟨_, rfl, SX.AVto.str (by first | (with_reducible assumption) | (simp; done) | assumption)⟩, ?_⟩ | refine ⟨⟨_, rfl, SX.AVto.bool (by first | (with_reducible assumption) | (simp; done) | assumption)⟩, ?_⟩ | refine ⟨⟨_, rfl, SX.AVto.eq (by first | (with_reducible assumption) | (simp [*]; done)) rfl⟩, ?_⟩))); (· (repeat (first | exact trivial | refine ⟨SX.EntTo.row rfl rfl rfl rfl, ?_⟩ | refine ⟨SX.EntTo.row rfl rfl (by first | rfl | (simp; done)) (by first | rfl | assumption | exact SX.flat_snoc rfl | exact SX.flat_one rfl | (simp; done)), ?_⟩ | refine ⟨SX.EntTo.nilRow rfl, ?_⟩ | refine ⟨SX.EntTo.eq rfl rfl rfl, ?_⟩ | refine ⟨SX.EntTo.same rfl rfl, ?_⟩))); (· rfl)) | (apply SX.St.ltn; (· (intro b h; first | (cases h; done) | exact ⟨rfl, h⟩ | exact SX.fixIs h)); (· (repeat (first | exact trivial | refine ⟨⟨_, rfl, SX.AVto.same rfl⟩, ?_⟩ | refine ⟨⟨_, rfl, SX.AVto.own rfl⟩, ?_⟩ | refine ⟨⟨_, rfl, SX.AVto.nil rfl⟩, ?_⟩ | refine ⟨⟨_, rfl, SX.AVto.int (by first | (with_reducible assumption) | omega | (simp; done) | assumption)⟩, ?_⟩ | refine ⟨⟨_, rfl, SX.AVto.str (by first | (with_reducible assumption) | (simp; done) | assumption)⟩, ?_⟩ | refine ⟨⟨_, rfl, SX.AVto.bool (by first | (with_reducible assumption) | (simp; done) | assumption)⟩, ?_⟩ | refine ⟨⟨_, rfl, SX.AVto.eq (by first | (with_reducible assumption) | (simp [*]; done)) rfl⟩, ?_⟩))); (· (repeat (first | exact trivial | refine ⟨SX.EntTo.row rfl rfl rfl rfl, ?_⟩ | refine ⟨SX.EntTo.row rfl rfl (by first | rfl | (simp; done)) (by first | rfl | assumption | exact SX.flat_snoc rfl | exact SX.flat_one rfl | (simp; done)), ?_⟩ | refine ⟨SX.EntTo.nilRow rfl, ?_⟩ | refine ⟨SX.EntTo.eq rfl rfl rfl, ?_⟩ | refine ⟨SX.EntTo.same rfl rfl, ?_⟩))); (· rfl)) | (apply SX.St.lt1; (· (intro b h; first | (cases h; done) | exact ⟨rfl, h⟩ | exact SX.fixIs h)); (· (repeat (first | exact trivial | refine ⟨⟨_, rfl, SX.AVto.same rfl⟩, ?_⟩ | refine ⟨⟨_, rfl, SX.AVto.own rfl⟩, ?_⟩ | refine ⟨⟨_, rfl, SX.AVto.nil rfl⟩, ?_⟩ | refine ⟨⟨_, rfl, SX.AVto.int (by first | (with_reducible assumption) | omega | (simp; done) | assumption)⟩, ?_⟩ | refine ⟨⟨_, rfl, SX.AVto.str (by first | (with_reducible assumption) | (simp; done) | assumption)⟩, ?_⟩ | refine ⟨⟨_, rfl, SX.AVto.bool (by first | (with_reducible assumption) | (simp; done) | assumption)⟩, ?_⟩ | refine ⟨⟨_, rfl, SX.AVto.eq (by first | (with_reducible assumption) | (simp [*]; done)) rfl⟩, ?_⟩))); (· (repeat (first | exact trivial | refine ⟨SX.EntTo.row rfl rfl rfl rfl, ?_⟩ | refine ⟨SX.EntTo.row rfl rfl (by first | rfl | (simp; done)) (by first | rfl | assumption | exact SX.flat_snoc rfl | exact SX.flat_one rfl | (simp; done)), ?_⟩ | refine ⟨SX.EntTo.nilRow rfl, ?_⟩ | refine ⟨SX.EntTo.eq rfl rfl rfl, ?_⟩ | refine ⟨SX.EntTo.same rfl rfl, ?_⟩))); (· rfl)) | (apply SX.St.ltnn; (· (intro b h; first | (cases h; done) | exact ⟨rfl, h⟩ | exact SX.fixIs h)); (· (repeat (first | exact trivial | refine ⟨⟨_, rfl, SX.AVto.same rfl⟩, ?_⟩ | refine ⟨⟨_, rfl, SX.AVto.own rfl⟩, ?_⟩ | refine ⟨⟨_, rfl, SX.AVto.nil rfl⟩, ?_⟩ | refine ⟨⟨_, rfl, SX.AVto.int (by first | (with_reducible assumption) | omega | (simp; done) | assumption)⟩, ?_⟩ | refine ⟨⟨_, rfl, SX.AVto.str (by first | (with_reducible assumption) | (simp; done) | assumption)⟩, ?_⟩ | refine ⟨⟨_, rfl, SX.AVto.bool (by first | (with_reducible assumption) | (simp; done) | assumption)⟩, ?_⟩ | refine ⟨⟨_, rfl, SX.AVto.eq (by first | (with_reducible assumption) | (simp [*]; done)) rfl⟩, ?_⟩))); (· (repeat (first | exact trivial | refine ⟨SX.EntTo.row rfl rfl rfl rfl, ?_⟩ | refine ⟨SX.EntTo.row rfl rfl (by first | rfl | (simp; done)) (by first | rfl | assumption | exact SX.flat_snoc rfl | exact SX.flat_one rfl | (simp; done)), ?_⟩ | refine ⟨SX.EntTo.nilRow rfl, ?_⟩ | refine ⟨SX.EntTo.eq rfl rfl rfl, ?_⟩ | refine ⟨SX.EntTo.same rfl rfl, ?_⟩))); (· rfl)) | (apply SX.St.lt11; (· (intro b h; first | (cases h; done) | exact ⟨rfl, h⟩ | exact SX.fixIs h)); (· (repeat (first | exact trivial | refine ⟨⟨_, rfl, SX.AVto.same rfl⟩, ?_⟩ | refine ⟨⟨_, rfl, SX.AVto.own rfl⟩, ?_⟩ | refine ⟨⟨_, rfl, SX.AVto.nil rfl⟩, ?_⟩ | refine ⟨⟨_, rfl, SX.AVto.int (by first | (with_reducible assumption) | omega | (simp; done) | assumption)⟩, ?_⟩ | refine ⟨⟨_, rfl, SX.AVto.str (by first | (with_reducible assumption) | (simp; done) | assumption)⟩, ?_⟩ | refine ⟨⟨_, rfl, SX.AVto.bool (by first | (with_reducible assumption) | (simp; done) | assumption)⟩, ?_⟩ | refine ⟨⟨_, rfl, SX.AVto.eq (by first | (with_reducible assumption) | (simp [*]; done)) rfl⟩, ?_⟩))); (· (repeat (first | exact trivial | refine ⟨SX.EntTo.row rfl rfl rfl rfl, ?_⟩ | refine ⟨SX.EntTo.row rfl rfl (by first | rfl | (simp; done)) (by first | rfl | assumption | exact SX.flat_snoc rfl | exact SX.flat_one rfl | (simp; done)), ?_⟩ | refine ⟨SX.EntTo.nilRow rfl, ?_⟩ | refine ⟨SX.EntTo.eq rfl rfl rfl, ?_⟩ | refine ⟨SX.EntTo.same rfl rfl, ?_⟩))); (· rfl)) | (apply SX.St.ltn1; (· (intro b h; first | (cases h; done) | exact ⟨rfl, h⟩ | exact SX.fixIs h)); (· (repeat (first | exact trivial | refine ⟨⟨_, rfl, SX.AVto.same rfl⟩, ?_⟩ | refine ⟨⟨_, rfl, SX.AVto.own rfl⟩, ?_⟩ | refine ⟨⟨_, rfl, SX.AVto.nil rfl⟩, ?_⟩ | refine ⟨⟨_, rfl, SX.AVto.int (by first | (with_reducible assumption) | omega | (simp; done) | assumption)⟩, ?_⟩ | refine ⟨⟨_, rfl, SX.AVto.str (by first | (with_reducible assumption) | (simp; done) | assumption)⟩, ?_⟩ | refine ⟨⟨_, rfl, SX.AVto.bool (by first | (with_reducible assumption) | (simp; done) | assumption)⟩, ?_⟩ | refine ⟨⟨_, rfl, SX.AVto.eq (by first | (with_reducible assumption) | (simp [*]; done)) rfl⟩, ?_⟩))); (· (repeat (first | exact trivial | refine ⟨SX.EntTo.row rfl rfl rfl rfl, ?_⟩ | refine ⟨SX.EntTo.row rfl rfl (by first | rfl | (simp; done)) (by first | rfl | assumption | exact SX.flat_snoc rfl | exact SX.flat_one rfl | (simp; done)), ?_⟩ | refine ⟨SX.EntTo.nilRow rfl, ?_⟩ | refine ⟨SX.EntTo.eq rfl rfl rfl, ?_⟩ | refine ⟨SX.EntTo.same rfl rfl, ?_⟩))); (· rfl)) | (apply SX.St.lt1n; (· (intro b h; first | (cases h; done) | exact ⟨rfl, h⟩ | exact SX.fixIs h)); (· (repeat (first | exact trivial | refine ⟨⟨_, rfl, SX.AVto.same rfl⟩, ?_⟩ | refine ⟨⟨_, rfl, SX.AVto.own rfl⟩, ?_⟩ | refine ⟨⟨_, rfl, SX.AVto.nil rfl⟩, ?_⟩ | refine ⟨⟨_, rfl, SX.AVto.int (by first | (with_reducible assumption) | omega | (simp; done) | assumption)⟩, ?_⟩ | refine ⟨⟨_, rfl, SX.AVto.str (by first | (with_reducible assumption) | (simp; done) | assumption)⟩, ?_⟩ | refine ⟨⟨_, rfl, SX.AVto.bool (by first | (with_reducible assumption) | (simp; done) | assumption)⟩, ?_⟩ | refine ⟨⟨_, rfl, SX.AVto.eq (by first | (with_reducible assumption) | (simp [*]; done)) rfl⟩, ?_⟩))); (· (repeat (first | exact trivial | refine ⟨SX.EntTo.row rfl rfl rfl rfl, ?_⟩ | refine ⟨SX.EntTo.row rfl rfl (by first | rfl | (simp; done)) (by first | rfl | assumption | exact SX.flat_snoc rfl | exact SX.flat_one rfl | (simp; done)), ?_⟩ | refine ⟨SX.EntTo.nilRow rfl, ?_⟩ | refine ⟨SX.EntTo.eq rfl rfl rfl, ?_⟩ | refine ⟨SX.EntTo.same rfl rfl, ?_⟩))); (· rfl))) : RetF C P [.tmp t] ⟨.own 100, [(100, .ent (.row e size n cells))]⟩ st :=
  ⟨_, hle, [.one (.own 100)], ⟨ResOK.tmp (by simp [mkSt, lk]), trivial⟩, rfl, fun b e hb => by simp at hb; obtain ⟨rfl, rfl⟩ := hb; simp [mkSt, lk]⟩
end
/-- The run, as far as it goes. -/
structure Held2 (q : Prop) : Prop where
  out : q
theorem go2 {p q : Prop} (h : q) (k : Held2 q → p := by
    intro h
    (first
      | (refine SX.Go1.is ?_; first
          | (refine SX.Go1.isLoad ?_; first | refine SX.G.load2 ?_ | refine SX.G.load1 ?_ | refine SX.G.loadR1 ?_ | refine SX.G.loadR2 ?_ | refine SX.G.load4 ?_ | refine SX.G.loadR4 ?_ | refine SX.G.load3 ?_ | refine SX.G.loadR3 ?_ | refine SX.G.loadOW ?_ | refine SX.G.loadO1 ?_)
          | (refine SX.Go1.isBin ?_; first | refine SX.G.lss ?_ | refine SX.G.eql ?_ | refine SX.G.neq ?_ | refine SX.G.gtr ?_ | refine SX.G.geq ?_ | refine SX.G.leq ?_ | refine SX.G.addN ?_ | refine SX.G.addNu ?_ | refine SX.G.subN ?_ | refine SX.G.subNu ?_ | refine SX.G.add ?_ | refine SX.G.sub ?_ | refine SX.G.mulN ?_ | refine SX.G.mulNu ?_ | refine SX.G.mul ?_ | refine SX.G.quoN ?_ | refine SX.G.quoNu ?_ | refine SX.G.quo ?_ | refine SX.G.remN ?_ | refine SX.G.remNu ?_ | refine SX.G.rem ?_ | refine SX.G.eqlT ?_ | refine SX.G.neqT ?_ | refine SX.G.eqlB ?_ | refine SX.G.neqB ?_ | refine SX.G.shr ?_ | refine SX.G.shl ?_ | refine SX.G.and ?_ | refine SX.G.addT ?_)
          | (refine SX.Go1.isUn ?_; first | refine SX.G.not ?_ | refine SX.G.neg ?_)
          | (refine SX.Go1.isField ?_; first | refine SX.G.fieldAddr ?_ | refine SX.G.fieldAddrR ?_)
          | (refine SX.Go1.isBuild ?_; first | refine SX.G.build2 ?_ | refine SX.G.build3 ?_ | refine SX.G.build4 ?_ | refine SX.G.build ?_)
          | (refine SX.Go1.isStore ?_; first | refine SX.G.store ?_ | refine SX.G.storeP ?_ | refine SX.G.storeO ?_)
          | (refine SX.Go1.isIx ?_; first | refine SX.G.indexAddrW ?_ | refine SX.G.indexAddrV ?_ | refine SX.G.indexAddrR ?_ | refine SX.G.indexAddrO ?_)
          | (refine SX.Go1.isBuildS ?_; first | refine SX.G.litOwn ?_ | refine SX.G.lit1 ?_)
          | (refine SX.Go1.isCall ?_; first | refine SX.G.minN ?_ | refine SX.G.maxN ?_ | refine SX.G.lenR ?_ | refine SX.G.lenN ?_ | refine SX.G.lenT ?_ | refine SX.G.lenS ?_ | refine SX.G.lenO ?_ | refine SX.G.appendW ?_ | refine SX.G.appendNilW ?_ | refine SX.G.callOwn ?_ | refine SX.G.call ?_)
          | refine SX.G.move ?_ | refine SX.G.assign ?_ | refine SX.G.extract ?_ | refine SX.G.box ?_ | refine SX.G.alloc ?_ | refine SX.G.pick ?_ | refine SX.R.pickT ?_ | refine SX.R.pickF ?_ | refine SX.G.pickB ?_ | refine SX.G.pickV ?_ | refine SX.G.makeN ?_ | refine SX.G.convN ?_ | refine SX.G.conv ?_ | refine SX.G.convBS ?_ | refine SX.G.sliceHiW ?_ | refine SX.G.sliceLoW ?_ | refine SX.G.sliceHiR ?_ | refine SX.G.sliceLoR ?_ | refine SX.G.sliceHiO ?_ | refine SX.G.sliceHiT ?_ | refine SX.G.sliceLoT ?_ | refine SX.G.sliceLHT ?_ | refine SX.G.indexT ?_ | refine SX.G.sliceHiS ?_ | refine SX.G.sliceLoS ?_ | refine SX.G.sliceLHS ?_ | refine SX.G.indexS ?_)
      | (refine SX.Reg.is ?_; first | refine SX.Reg.go ?_ | refine SX.R.runT ?_ | refine SX.R.runF ?_ | refine SX.R.skipT ?_ | refine SX.R.skipF ?_ | refine SX.R.skipU ?_ | refine SX.Reg.nil ⟨by kernel_rfl, ?_⟩ | refine SX.Reg.nil ?_)
      | (refine SX.WP.is ?_; first | refine SX.WP.seq ?_ | refine SX.WP.regionL ?_ | refine SX.WP.regionDL (by kernel_rfl) ?_ | refine SX.WP.block ?_ | refine SX.WP.skip ?_ | refine SX.WP.exit ?_ | refine SX.WP.ret ?_ | refine SX.WP.label ?_ | refine SX.W.condT ?_ | refine SX.W.condF ?_)
      | refine SX.thenN ?_ | refine SX.thenE ?_ | refine SX.thenR ?_ | refine SX.inBlkN ?_ | refine SX.inBlkR ?_ | refine SX.inBlkE ?_ | refine SX.inBlkO rfl ?_ | refine SX.retR ?_ | refine SX.retN ?_ | refine SX.retFR ?_ | refine SX.retFN ?_)
    repeat (first
      | (refine SX.Go1.is ?_; first
          | (refine SX.Go1.isLoad ?_; first | refine SX.G.load2 ?_ | refine SX.G.load1 ?_ | refine SX.G.loadR1 ?_ | refine SX.G.loadR2 ?_ | refine SX.G.load4 ?_ | refine SX.G.loadR4 ?_ | refine SX.G.load3 ?_ | refine SX.G.loadR3 ?_ | refine SX.G.loadOW ?_ | refine SX.G.loadO1 ?_)
          | (refine SX.Go1.isBin ?_; first | refine SX.G.lss ?_ | refine SX.G.eql ?_ | refine SX.G.neq ?_ | refine SX.G.gtr ?_ | refine SX.G.geq ?_ | refine SX.G.leq ?_ | refine SX.G.addN ?_ | refine SX.G.addNu ?_ | refine SX.G.subN ?_ | refine SX.G.subNu ?_ | refine SX.G.add ?_ | refine SX.G.sub ?_ | refine SX.G.mulN ?_ | refine SX.G.mulNu ?_ | refine SX.G.mul ?_ | refine SX.G.quoN ?_ | refine SX.G.quoNu ?_ | refine SX.G.quo ?_ | refine SX.G.remN ?_ | refine SX.G.remNu ?_ | refine SX.G.rem ?_ | refine SX.G.eqlT ?_ | refine SX.G.neqT ?_ | refine SX.G.eqlB ?_ | refine SX.G.neqB ?_ | refine SX.G.shr ?_ | refine SX.G.shl ?_ | refine SX.G.and ?_ | refine SX.G.addT ?_)
          | (refine SX.Go1.isUn ?_; first | refine SX.G.not ?_ | refine SX.G.neg ?_)
          | (refine SX.Go1.isField ?_; first | refine SX.G.fieldAddr ?_ | refine SX.G.fieldAddrR ?_)
          | (refine SX.Go1.isBuild ?_; first | refine SX.G.build2 ?_ | refine SX.G.build3 ?_ | refine SX.G.build4 ?_ | refine SX.G.build ?_)
          | (refine SX.Go1.isStore ?_; first | refine SX.G.store ?_ | refine SX.G.storeP ?_ | refine SX.G.storeO ?_)
          | (refine SX.Go1.isIx ?_; first | refine SX.G.indexAddrW ?_ | refine SX.G.indexAddrV ?_ | refine SX.G.indexAddrR ?_ | refine SX.G.indexAddrO ?_)
          | (refine SX.Go1.isBuildS ?_; first | refine SX.G.litOwn ?_ | refine SX.G.lit1 ?_)
          | (refine SX.Go1.isCall ?_; first | refine SX.G.minN ?_ | refine SX.G.maxN ?_ | refine SX.G.lenR ?_ | refine SX.G.lenN ?_ | refine SX.G.lenT ?_ | refine SX.G.lenS ?_ | refine SX.G.lenO ?_ | refine SX.G.appendW ?_ | refine SX.G.appendNilW ?_ | refine SX.G.callOwn ?_ | refine SX.G.call ?_)
          | refine SX.G.move ?_ | refine SX.G.assign ?_ | refine SX.G.extract ?_ | refine SX.G.box ?_ | refine SX.G.alloc ?_ | refine SX.G.pick ?_ | refine SX.R.pickT ?_ | refine SX.R.pickF ?_ | refine SX.G.pickB ?_ | refine SX.G.pickV ?_ | refine SX.G.makeN ?_ | refine SX.G.convN ?_ | refine SX.G.conv ?_ | refine SX.G.convBS ?_ | refine SX.G.sliceHiW ?_ | refine SX.G.sliceLoW ?_ | refine SX.G.sliceHiR ?_ | refine SX.G.sliceLoR ?_ | refine SX.G.sliceHiO ?_ | refine SX.G.sliceHiT ?_ | refine SX.G.sliceLoT ?_ | refine SX.G.sliceLHT ?_ | refine SX.G.indexT ?_ | refine SX.G.sliceHiS ?_ | refine SX.G.sliceLoS ?_ | refine SX.G.sliceLHS ?_ | refine SX.G.indexS ?_)
      | (refine SX.Reg.is ?_; first | refine SX.Reg.go ?_ | refine SX.R.runT ?_ | refine SX.R.runF ?_ | refine SX.R.skipT ?_ | refine SX.R.skipF ?_ | refine SX.R.skipU ?_ | refine SX.Reg.nil ⟨by kernel_rfl, ?_⟩ | refine SX.Reg.nil ?_)
      | (refine SX.WP.is ?_; first | refine SX.WP.seq ?_ | refine SX.WP.regionL ?_ | refine SX.WP.regionDL (by kernel_rfl) ?_ | refine SX.WP.block ?_ | refine SX.WP.skip ?_ | refine SX.WP.exit ?_ | refine SX.WP.ret ?_ | refine SX.WP.label ?_ | refine SX.W.condT ?_ | refine SX.W.condF ?_)
      | refine SX.thenN ?_ | refine SX.thenE ?_ | refine SX.thenR ?_ | refine SX.inBlkN ?_ | refine SX.inBlkR ?_ | refine SX.inBlkE ?_ | refine SX.inBlkO rfl ?_ | refine SX.retR ?_ | refine SX.retN ?_ | refine SX.retFR ?_ | refine SX.retFN ?_)
    exact h.out) : p := k ⟨h⟩
end SX
/- The run within one region; calls of functions without a text. No program in sight. -/
set_option linter.unusedVariables false
set_option linter.unusedSimpArgs false
namespace SX
open Go Go.RowKit
section
variable {P : Program} {C : Ctx} {st : St}
variable {ops rest : List Oper} {acc : List (List Nat × List Nat)} {K : List (List Nat × List Nat) → St → Prop} {dst : Option Tmp} {ty : TypeId}
theorem vals_has {E : Env} {S : Nat → Prop} {w : World} : ∀ {vs args : List Value}, All2 (AV.has E S w) (args.map AV.v) vs → vs = args
  | [], [], _ => rfl
  | v :: vs, a :: args, h => by rw [vals_has h.2, show v = a from h.1]
  | [], _ :: _, h => h.elim
  | _ :: _, [], h => h.elim
theorem Go1.callE {f : FuncId} {as : Array Operand} {tys : Array TypeId} {args vs : List Value} (ha : evs st as.toList = some (args.map AV.v)) (hc : ∀ w, (callFunc f args.toArray).run P w = .ok (.value (.tuple vs.toArray)) w) (hd : dstOK dst C.nt = true)
    (next : Reg P C ops rest (st.app dst ⟨.tup (vs.map fun v => .one (.c (.val v))), []⟩) (([], []) :: acc) K) : Go1 P C ops dst (.call ⟨.value (.func f), as, tys⟩) ty rest st acc K :=
  Go1.pureV [] [] (by simp) hd (by simp) (fun o ho _ st' E S a w hev hs _ => by
    have hop : o.op.operands = #[.func f] ++ as := by rw [ho]; rfl
    have ha' : evs st' as.toList = some (args.map AV.v) := by rw [evs_congr (fun x hx => hev x (by rw [hop]; simp at hx; simp [hx]))]; exact ha
    obtain ⟨hall, _⟩ := evs_has hs ha'
    have hvs := vals_has hall
    have har : as.map a.eval = args.toArray := by apply Array.ext'; simpa using hvs
    refine ⟨fun i hi => ?_, _, ?_, vs, rfl, ?_⟩
    · simp only [AV.ids, List.mem_flatMap, List.mem_map] at hi
      obtain ⟨x, ⟨v, _, rfl⟩, hx⟩ := hi
      cases hx
    · unfold execOp; rw [ho]
      have he : a.eval (.func f) = .func (.func f) #[] #[] := rfl
      have := hc w
      simp [resolve, he, Deferred.ofValue, invoke, har, this]
    · clear ha hc next hd
      induction vs with
      | nil => trivial
      | cons v vs ih => exact ⟨rfl, ih⟩) next
end
/-- The run within a region. -/
structure HeldR (q : Prop) : Prop where
  out : q
theorem goR {p q : Prop} (h : q) (k : HeldR q → p := by
    intro h
    (first
      | (refine SX.Go1.is ?_; first
          | (refine SX.Go1.isLoad ?_; first | refine SX.G.load2 ?_ | refine SX.G.load1 ?_ | refine SX.G.loadR1 ?_ | refine SX.G.loadR2 ?_ | refine SX.G.load4 ?_ | refine SX.G.loadR4 ?_ | refine SX.G.load3 ?_ | refine SX.G.loadR3 ?_ | refine SX.G.loadOW ?_ | refine SX.G.loadO1 ?_)
          | (refine SX.Go1.isBin ?_; first | refine SX.G.lss ?_ | refine SX.G.eql ?_ | refine SX.G.neq ?_ | refine SX.G.gtr ?_ | refine SX.G.geq ?_ | refine SX.G.leq ?_ | refine SX.G.addN ?_ | refine SX.G.addNu ?_ | refine SX.G.subN ?_ | refine SX.G.subNu ?_ | refine SX.G.add ?_ | refine SX.G.sub ?_ | refine SX.G.mulN ?_ | refine SX.G.mulNu ?_ | refine SX.G.mul ?_ | refine SX.G.quoN ?_ | refine SX.G.quoNu ?_ | refine SX.G.quo ?_ | refine SX.G.remN ?_ | refine SX.G.remNu ?_ | refine SX.G.rem ?_ | refine SX.G.eqlT ?_ | refine SX.G.neqT ?_ | refine SX.G.eqlB ?_ | refine SX.G.neqB ?_ | refine SX.G.shr ?_ | refine SX.G.shl ?_ | refine SX.G.and ?_ | refine SX.G.addT ?_)
          | (refine SX.Go1.isUn ?_; first | refine SX.G.not ?_ | refine SX.G.neg ?_)
          | (refine SX.Go1.isField ?_; first | refine SX.G.fieldAddr ?_ | refine SX.G.fieldAddrR ?_)
          | (refine SX.Go1.isBuild ?_; first | refine SX.G.build2 ?_ | refine SX.G.build3 ?_ | refine SX.G.build4 ?_ | refine SX.G.build ?_)
          | (refine SX.Go1.isStore ?_; first | refine SX.G.store ?_ | refine SX.G.storeP ?_ | refine SX.G.storeO ?_)
          | (refine SX.Go1.isIx ?_; first | refine SX.G.indexAddrW ?_ | refine SX.G.indexAddrV ?_ | refine SX.G.indexAddrR ?_ | refine SX.G.indexAddrO ?_)
          | (refine SX.Go1.isBuildS ?_; first | refine SX.G.litOwn ?_ | refine SX.G.lit1 ?_)
          | (refine SX.Go1.isCall ?_; first | refine SX.G.minN ?_ | refine SX.G.maxN ?_ | refine SX.G.lenR ?_ | refine SX.G.lenN ?_ | refine SX.G.lenT ?_ | refine SX.G.lenS ?_ | refine SX.G.lenO ?_ | refine SX.G.appendW ?_ | refine SX.G.appendNilW ?_ | refine SX.G.callOwn ?_ | refine SX.G.call ?_)
          | refine SX.G.move ?_ | refine SX.G.assign ?_ | refine SX.G.extract ?_ | refine SX.G.box ?_ | refine SX.G.alloc ?_ | refine SX.G.pick ?_ | refine SX.R.pickT ?_ | refine SX.R.pickF ?_ | refine SX.G.pickB ?_ | refine SX.G.pickV ?_ | refine SX.G.makeN ?_ | refine SX.G.convN ?_ | refine SX.G.conv ?_ | refine SX.G.convBS ?_ | refine SX.G.sliceHiW ?_ | refine SX.G.sliceLoW ?_ | refine SX.G.sliceHiR ?_ | refine SX.G.sliceLoR ?_ | refine SX.G.sliceHiO ?_ | refine SX.G.sliceHiT ?_ | refine SX.G.sliceLoT ?_ | refine SX.G.sliceLHT ?_ | refine SX.G.indexT ?_ | refine SX.G.sliceHiS ?_ | refine SX.G.sliceLoS ?_ | refine SX.G.sliceLHS ?_ | refine SX.G.indexS ?_)
      | (refine SX.Reg.is ?_; first | refine SX.Reg.go ?_ | refine SX.R.runT ?_ | refine SX.R.runF ?_ | refine SX.R.skipT ?_ | refine SX.R.skipF ?_ | refine SX.R.skipU ?_)
)
    repeat (first
      | (refine SX.Go1.is ?_; first
          | (refine SX.Go1.isLoad ?_; first | refine SX.G.load2 ?_ | refine SX.G.load1 ?_ | refine SX.G.loadR1 ?_ | refine SX.G.loadR2 ?_ | refine SX.G.load4 ?_ | refine SX.G.loadR4 ?_ | refine SX.G.load3 ?_ | refine SX.G.loadR3 ?_ | refine SX.G.loadOW ?_ | refine SX.G.loadO1 ?_)
          | (refine SX.Go1.isBin ?_; first | refine SX.G.lss ?_ | refine SX.G.eql ?_ | refine SX.G.neq ?_ | refine SX.G.gtr ?_ | refine SX.G.geq ?_ | refine SX.G.leq ?_ | refine SX.G.addN ?_ | refine SX.G.addNu ?_ | refine SX.G.subN ?_ | refine SX.G.subNu ?_ | refine SX.G.add ?_ | refine SX.G.sub ?_ | refine SX.G.mulN ?_ | refine SX.G.mulNu ?_ | refine SX.G.mul ?_ | refine SX.G.quoN ?_ | refine SX.G.quoNu ?_ | refine SX.G.quo ?_ | refine SX.G.remN ?_ | refine SX.G.remNu ?_ | refine SX.G.rem ?_ | refine SX.G.eqlT ?_ | refine SX.G.neqT ?_ | refine SX.G.eqlB ?_ | refine SX.G.neqB ?_ | refine SX.G.shr ?_ | refine SX.G.shl ?_ | refine SX.G.and ?_ | refine SX.G.addT ?_)
          | (refine SX.Go1.isUn ?_; first | refine SX.G.not ?_ | refine SX.G.neg ?_)
          | (refine SX.Go1.isField ?_; first | refine SX.G.fieldAddr ?_ | refine SX.G.fieldAddrR ?_)
          | (refine SX.Go1.isBuild ?_; first | refine SX.G.build2 ?_ | refine SX.G.build3 ?_ | refine SX.G.build4 ?_ | refine SX.G.build ?_)
          | (refine SX.Go1.isStore ?_; first | refine SX.G.store ?_ | refine SX.G.storeP ?_ | refine SX.G.storeO ?_)
          | (refine SX.Go1.isIx ?_; first | refine SX.G.indexAddrW ?_ | refine SX.G.indexAddrV ?_ | refine SX.G.indexAddrR ?_ | refine SX.G.indexAddrO ?_)
          | (refine SX.Go1.isBuildS ?_; first | refine SX.G.litOwn ?_ | refine SX.G.lit1 ?_)
          | (refine SX.Go1.isCall ?_; first | refine SX.G.minN ?_ | refine SX.G.maxN ?_ | refine SX.G.lenR ?_ | refine SX.G.lenN ?_ | refine SX.G.lenT ?_ | refine SX.G.lenS ?_ | refine SX.G.lenO ?_ | refine SX.G.appendW ?_ | refine SX.G.appendNilW ?_ | refine SX.G.callOwn ?_ | refine SX.G.call ?_)
          | refine SX.G.move ?_ | refine SX.G.assign ?_ | refine SX.G.extract ?_ | refine SX.G.box ?_ | refine SX.G.alloc ?_ | refine SX.G.pick ?_ | refine SX.R.pickT ?_ | refine SX.R.pickF ?_ | refine SX.G.pickB ?_ | refine SX.G.pickV ?_ | refine SX.G.makeN ?_ | refine SX.G.convN ?_ | refine SX.G.conv ?_ | refine SX.G.convBS ?_ | refine SX.G.sliceHiW ?_ | refine SX.G.sliceLoW ?_ | refine SX.G.sliceHiR ?_ | refine SX.G.sliceLoR ?_ | refine SX.G.sliceHiO ?_ | refine SX.G.sliceHiT ?_ | refine SX.G.sliceLoT ?_ | refine SX.G.sliceLHT ?_ | refine SX.G.indexT ?_ | refine SX.G.sliceHiS ?_ | refine SX.G.sliceLoS ?_ | refine SX.G.sliceLHS ?_ | refine SX.G.indexS ?_)
      | (refine SX.Reg.is ?_; first | refine SX.Reg.go ?_ | refine SX.R.runT ?_ | refine SX.R.runF ?_ | refine SX.R.skipT ?_ | refine SX.R.skipF ?_ | refine SX.R.skipU ?_)
)
    exact h.out) : p := k ⟨h⟩
end SX
/- Calls that read and write their caller's variables; function values. No program in sight. -/
set_option linter.unusedVariables false
set_option linter.unusedSimpArgs false
namespace SX
open Go Go.RowKit
def memB (l : List Nat) (i : Nat) : Bool := l.any (Nat.beq i)
theorem memB_iff {l : List Nat} {i : Nat} : memB l i = true ↔ i ∈ l := by
  unfold memB
  rw [List.any_eq_true]
  constructor
  · rintro ⟨x, hx, he⟩
    have : i = x := by simpa using he
    rw [this]; exact hx
  · intro h; exact ⟨i, h, by simp⟩
def Slot.ids : Slot → List Nat
  | .ent e => e.ids
  | _ => []
def nodupB : List Nat → Bool
  | [] => true
  | a :: l => !memB l a && nodupB l
/-- Is a contract with boxes well made? -/
def preOK (args : List AV) (pre : List (Nat × Ent)) (out : Out) : Bool :=
  nodupB (pre.map (·.1)) && (pre.all fun p => (Slot.ent p.2).isBox) && (args.all fun v => v.ids.all (memB (pre.map (·.1)))) && (pre.all fun p => p.2.ids.all (memB (pre.map (·.1)))) && ((pre.map (·.1)).all (memB (out.hp.map (·.1)))) &&
    ((out.res.ids ++ out.hp.flatMap fun p => p.2.ids).all fun i => memB (pre.map (·.1)) i || memB (out.hp.map (·.1)) i)
theorem lk_lookup : ∀ (l : List (Nat × Ent)) (b : Nat), l.lookup b = lk l b
  | [], _ => rfl
  | (j, v) :: l, b => by
    rw [List.lookup_cons]
    unfold lk
    by_cases h : b = j
    · subst h; simp
    · have h1 : (b == j) = false := by simpa using h
      have h2 : Nat.beq j b = false := by rw [Bool.eq_false_iff]; simp; omega
      simp only [h1, h2]; exact lk_lookup l b
theorem lk_key : ∀ {l : List (Nat × Ent)} {b : Nat} {e : Ent}, nodupB (l.map (·.1)) = true → (b, e) ∈ l → lk l b = some e
  | (j, v) :: l, b, e, hn, h => by
    rw [List.map_cons, nodupB, Bool.and_eq_true] at hn
    unfold lk
    rcases List.mem_cons.1 h with h | h
    · cases h; simp
    · have hne : Nat.beq j b = false := by
        rw [Bool.eq_false_iff]; intro he
        have he' : j = b := by simpa using he
        subst he'
        have : memB (l.map (·.1)) j = true := memB_iff.2 (List.mem_map.2 ⟨(j, e), h, rfl⟩)
        rw [this] at hn; cases hn.1
      simp only [hne]; exact lk_key hn.2 h
theorem lk_some_of_mem {l : List (Nat × Ent)} {b : Nat} (h : b ∈ l.map (·.1)) : (lk l b).isSome = true := by
  induction l with
  | nil => cases h
  | cons p l ih =>
    obtain ⟨j, v⟩ := p
    unfold lk
    cases hj : Nat.beq j b with
    | true => rfl
    | false =>
      simp only
      refine ih ?_
      rw [List.map_cons] at h
      rcases List.mem_cons.1 h with h | h
      · rw [h] at hj; simp at hj
      · exact h
theorem CallOK.fnF {P : Program} {f : FuncId} {fn : Func} {c : Code} {args : List AV} {pre : List (Nat × Ent)} {out : Out} {nt : Nat} {rs : List ResultVar} (hf : P.funcs[f]? = some fn) (hres : fn.results = rs.toArray) (hnt : fn.ntmps = nt) (hb : fn.body = some c) (hn : (fn.name == "runtime.NumGoroutine") = false) (hna : Nat.ble args.length nt = true)
    (hp : preOK args pre out = true)
    (h : ∀ (w0 : World) (T B : Nat → Prop) (E0 : Env), (∀ k, B k → k ∈ (pre.map (·.1)).map E0.blk) → WP P ⟨w0, T, B, nt, E0, fun b => (lk pre b).isSome⟩ c ⟨fun t => args[t]?, fun b => match lk pre b with | some e => .ent e | none => .free⟩ (retF ⟨w0, T, B, nt, E0, fun b => (lk pre b).isSome⟩ P rs out)) : CallOK P f args pre out := by
  unfold preOK at hp
  simp only [Bool.and_eq_true] at hp
  obtain ⟨⟨⟨⟨⟨p1, p2⟩, p3⟩, p4⟩, p5⟩, p6⟩ := hp
  have e1 : (fun b => (pre.lookup b).isSome) = fun b => (lk pre b).isSome := funext fun b => by rw [lk_lookup]
  have e2 : startSt args pre = ⟨fun t => args[t]?, fun b => match lk pre b with | some e => .ent e | none => .free⟩ := by
    unfold startSt
    congr 1
    funext b
    rw [lk_lookup]
    cases lk pre b <;> rfl
  have key : ∀ i, memB (pre.map (·.1)) i = true → (pre.lookup i).isSome = true := fun i hi => by rw [lk_lookup]; exact lk_some_of_mem (memB_iff.1 hi)
  refine CallOK.fn hf hres hnt hb hn hna (fun b e hb => by rw [lk_lookup]; exact lk_key p1 hb) (fun v hv i hi => key i (List.all_eq_true.1 (List.all_eq_true.1 p3 v hv) i hi)) (fun b e hb i hi => key i (List.all_eq_true.1 (List.all_eq_true.1 p4 (b, e) hb) i hi)) (fun b e hb => ?_) (fun i hi => ?_) (fun w0 T B E0 hB => ?_)
  · have := memB_iff.1 (List.all_eq_true.1 p5 b (List.mem_map.2 ⟨(b, e), hb, rfl⟩))
    obtain ⟨⟨b', s⟩, hs, rfl⟩ := List.mem_map.1 this
    exact ⟨s, hs⟩
  · have hi' : i ∈ out.res.ids ++ out.hp.flatMap fun p => p.2.ids := by
      rw [List.mem_append]
      rcases hi with hi | ⟨b, e, hb, hi⟩
      · exact .inl hi
      · exact .inr (List.mem_flatMap.2 ⟨(b, .ent e), hb, hi⟩)
    have := List.all_eq_true.1 p6 i hi'
    rw [Bool.or_eq_true] at this
    rcases this with h | h
    · exact .inl (key i h)
    · obtain ⟨⟨b', s⟩, hs, rfl⟩ := List.mem_map.1 (memB_iff.1 h)
      exact .inr ⟨s, hs⟩
  · rw [e1, e2]
    refine WP.retF (h w0 T B E0 fun k hk => ?_)
    obtain ⟨b, e, hb, hk⟩ := hB k hk
    have h2 := List.all_eq_true.1 p2 (b, e) hb
    cases e with
    | box t cells =>
      have hk' : some (E0.blk b) = some k := hk
      exact List.mem_map.2 ⟨b, List.mem_map.2 ⟨_, hb, rfl⟩, Option.some.inj hk'⟩
    | row _ _ _ _ => cases h2
    | abs _ => cases h2
section
variable {P : Program} {C : Ctx} {st : St}
variable {ops rest : List Oper} {acc : List (List Nat × List Nat)} {K : List (List Nat × List Nat) → St → Prop} {dst : Option Tmp} {d : Tmp} {op : Op} {ty t t' : TypeId} {x y z : Operand}
/-- The variables that a call sees: those of its arguments, and those that they point to. -/
def pnames : List Nat := [29, 81, 82, 83, 84]
def reach (st : St) (args : List AV) (cap : List Nat) : List Nat :=
  let l := cap ++ args.flatMap AV.ids
  l ++ l.flatMap fun b => (st.hp b).ids
def keysOf (l : List Nat) : List Nat := pnames.filter fun k => memB l k
def preOf (st : St) : List Nat → Option (List (Nat × Ent))
  | [] => some []
  | b :: l => match st.hp b, preOf st l with
    | .ent e, some m => some ((b, e) :: m)
    | _, _ => none
theorem preOf_mem {st : St} : ∀ {l : List Nat} {m : List (Nat × Ent)}, preOf st l = some m → ∀ b e, (b, e) ∈ m → st.hp b = .ent e
  | [], m, h, b, e, hb => by cases h; cases hb
  | a :: l, m, h, b, e, hb => by
    unfold preOf at h
    cases h1 : st.hp a with
    | ent e1 =>
      cases h2 : preOf st l with
      | none => simp [h1, h2] at h
      | some m' =>
        simp only [h1, h2] at h
        cases h
        rcases List.mem_cons.1 hb with hb | hb
        · cases hb; exact h1
        · exact preOf_mem h2 b e hb
    | free => simp [h1] at h
    | gone => simp [h1] at h
/-- Is what a call leaves such as it should be? -/
def outOK (args : List AV) (pre : List (Nat × Ent)) (out : Out) : Bool :=
  ((pre.map (·.1)).all (memB (out.hp.map (·.1)))) && ((out.hp.map (·.1)).all (memB (pre.map (·.1)))) && (out.hp.all fun p => p.2.used) && ((out.res.ids ++ out.hp.flatMap fun p => p.2.ids).all fun i => memB (out.hp.map (·.1)) i)
theorem G.callP {fx : Operand} {f : FuncId} {cap : List (Nat × Nat)} {as : Array Operand} {tys : Array TypeId} {args : List AV} {pre : List (Nat × Ent)} {out : Out}
    (next : Reg P C ops rest (st.app dst out) ((out.hp.map (·.1), out.hp.map (·.1)) :: acc) K) (hd : dstOK dst C.nt = true := by rfl) (hf : st.ev fx = some (.it (.one (.clo f cap))) := by rfl) (ha : evs st as.toList = some args := by rfl)
    (hk : preOf st (keysOf (reach st args (cap.map (·.1)))) = some pre := by rfl) (hc : CallOK P f (args ++ cap.map fun p => .ptr p.1 p.2) pre out := by assumption) (ho : outOK args pre out = true := by rfl) : Go1 P C ops dst (.call ⟨.value fx, as, tys⟩) ty rest st acc K := by
  unfold outOK at ho
  simp only [Bool.and_eq_true] at ho
  obtain ⟨⟨⟨o1, o2⟩, o3⟩, o4⟩ := ho
  refine Go1.callG hd hf ha hc (fun b e hb => ⟨preOf_mem hk b e hb, ?_⟩) (fun b s hb => .inl ?_) (fun b s hb => List.all_eq_true.1 o3 (b, s) hb) (fun b s hb => List.mem_map.2 ⟨(b, s), hb, rfl⟩) (fun i hi => .inl ?_) next
  · have := memB_iff.1 (List.all_eq_true.1 o1 b (List.mem_map.2 ⟨(b, e), hb, rfl⟩))
    obtain ⟨⟨b', s⟩, hs, rfl⟩ := List.mem_map.1 this
    exact ⟨s, hs⟩
  · have := memB_iff.1 (List.all_eq_true.1 o2 b (List.mem_map.2 ⟨(b, s), hb, rfl⟩))
    obtain ⟨⟨b', e⟩, hs, rfl⟩ := List.mem_map.1 this
    exact ⟨e, hs⟩
  · have hi' : i ∈ out.res.ids ++ out.hp.flatMap fun p => p.2.ids := by
      rw [List.mem_append]
      rcases hi with hi | ⟨b, e, hb, hi⟩
      · exact .inl hi
      · exact .inr (List.mem_flatMap.2 ⟨(b, .ent e), hb, hi⟩)
    obtain ⟨⟨b', s⟩, hs, rfl⟩ := List.mem_map.1 (memB_iff.1 (List.all_eq_true.1 o4 i hi'))
    exact ⟨s, hs⟩
theorem run_enterB {o : Oper} {f : FuncId} {as : Array Operand} {tys : Array TypeId} {p : Value} {fx : Operand} {ρ : Operand → Value} (ho : o.op = .call ⟨.value fx, as, tys⟩) (hf : ρ fx = .func (.func f) #[p] #[])
    (he : ∃ fn, P.funcs[f]? = some fn ∧ (fn.name == "runtime.NumGoroutine") = false ∧ fn.body.isNone = false) (w : World) : (execOp ρ o).run P w = .ok (.enter f (#[p] ++ as.map ρ)) w := by
  obtain ⟨fn, h1, h2, h3⟩ := he
  unfold execOp
  rw [ho]
  have h2' : fn.name ≠ "runtime.NumGoroutine" := by simpa using h2
  have h3' : fn.body ≠ none := by intro e; rw [e] at h3; cases h3
  simp [resolve, hf, Deferred.ofValue, invoke, callFunc, h1, h2', h3']
theorem Go1.callB {fx : Operand} {f : FuncId} {p : Nat} {as : Array Operand} {tys : Array TypeId} {args : List AV} {pre : List (Nat × Ent)} {out : Out} {fp : List Nat} (hd : dstOK dst C.nt = true) (hf : st.ev fx = some (.it (.one (.bnd f p)))) (ha : evs st as.toList = some args)
    (hc : CallOK P f (.ptr p 0 :: args) pre out) (hpre : ∀ b e, (b, e) ∈ pre → st.hp b = .ent e ∧ ∃ s, (b, s) ∈ out.hp) (hnew : ∀ b s, (b, s) ∈ out.hp → (∃ e, (b, e) ∈ pre) ∨ st.hp b = .free) (hkeep : ∀ b s, (b, s) ∈ out.hp → s.used = true)
    (hfp : ∀ b s, (b, s) ∈ out.hp → b ∈ fp)
    (hid : ∀ i, (i ∈ out.res.ids ∨ ∃ b e, (b, Slot.ent e) ∈ out.hp ∧ i ∈ e.ids) → (∃ s, (i, s) ∈ out.hp))
    (next : Reg P C ops rest (st.app dst out) ((fp, out.hp.map (·.1)) :: acc) K) : Go1 P C ops dst (.call ⟨.value fx, as, tys⟩) ty rest st acc K := by
  refine ⟨fp, out, fun o h2 h3 h4 => OpOK.eff [] pre (fun b hb => ?_) (h2 ▸ dstOK_spec hd) (fun b e hb => by cases hb) hpre hnew hkeep (fun st' E S a w hev hhp hs _ hpre' => ?_), next⟩
  · rcases hb with ⟨e, hb⟩ | ⟨e, hb⟩ | ⟨s, hb⟩
    · cases hb
    · obtain ⟨_, s, hs⟩ := hpre b e hb; exact hfp b s hs
    · exact hfp b s hb
  · have hop : o.op.operands = #[fx] ++ as := by rw [h3]; rfl
    have ha' : evs st' as.toList = some args := by rw [evs_congr (fun x hx => hev x (by rw [hop]; simp at hx; simp [hx]))]; exact ha
    obtain ⟨hall, hids⟩ := evs_has hs ha'
    have hcl := hs.ev ((hev fx (by rw [hop]; simp)).trans hf)
    obtain ⟨hent, hcall⟩ := hc
    have key : ∀ i, (∃ s, (i, s) ∈ out.hp) → (updL st'.hp out.hp i).used = true := by
      intro i hi
      rcases updL_cases i out.hp st'.hp with ⟨s, g1, g2⟩ | ⟨g1, g2⟩
      · rw [g2]; exact hkeep i s g1
      · obtain ⟨s, hi⟩ := hi; exact absurd hi (g1 s)
    refine ⟨⟨fun i hi => key i (hid i (.inl hi)), fun b e hb i hi => key i (hid i (.inr ⟨b, e, hb, hi⟩))⟩, fun K Q hK => ?_⟩
    have hcalls := hcall E S w (.pointer (some ⟨E.blk p, 0, none⟩) :: as.toList.map a.eval) hs.lt hs.gl ⟨rfl, hall⟩ (fun b e hb => hs.hp b e (hpre' b e hb)) (fun b e k hb hk => (hs.blk b e k (hpre' b e hb) hk).1)
      (fun b b' e e' k hne hb hb' => hs.sep b b' e e' k hne (hpre' b e hb) (hpre' b' e' hb'))
    unfold Oper.wp
    rw [run_enterB h3 hcl.1 hent w]
    have harr : #[Value.pointer (some ⟨E.blk p, 0, none⟩)] ++ as.map a.eval = (Value.pointer (some ⟨E.blk p, 0, none⟩) :: as.toList.map a.eval).toArray := by
      apply Array.ext'; simp
    show Calls P f _ w _
    rw [harr]
    exact hcalls.mono fun e w' ⟨v, E', S', he, hE⟩ => by subst he; exact hK v w' E' S' hE
theorem G.callB {fx : Operand} {f : FuncId} {p : Nat} {as : Array Operand} {tys : Array TypeId} {args : List AV} {pre : List (Nat × Ent)} {out : Out}
    (next : Reg P C ops rest (st.app dst out) ((out.hp.map (·.1), out.hp.map (·.1)) :: acc) K) (hd : dstOK dst C.nt = true := by rfl) (hf : st.ev fx = some (.it (.one (.bnd f p))) := by rfl) (ha : evs st as.toList = some args := by rfl)
    (hk : preOf st (keysOf (reach st args [p])) = some pre := by rfl) (hc : CallOK P f (.ptr p 0 :: args) pre out := by assumption) (ho : outOK args pre out = true := by rfl) : Go1 P C ops dst (.call ⟨.value fx, as, tys⟩) ty rest st acc K := by
  unfold outOK at ho
  simp only [Bool.and_eq_true] at ho
  obtain ⟨⟨⟨o1, o2⟩, o3⟩, o4⟩ := ho
  refine Go1.callB hd hf ha hc (fun b e hb => ⟨preOf_mem hk b e hb, ?_⟩) (fun b s hb => .inl ?_) (fun b s hb => List.all_eq_true.1 o3 (b, s) hb) (fun b s hb => List.mem_map.2 ⟨(b, s), hb, rfl⟩) (fun i hi => ?_) next
  · have := memB_iff.1 (List.all_eq_true.1 o1 b (List.mem_map.2 ⟨(b, e), hb, rfl⟩))
    obtain ⟨⟨b', s⟩, hs, rfl⟩ := List.mem_map.1 this
    exact ⟨s, hs⟩
  · have := memB_iff.1 (List.all_eq_true.1 o2 b (List.mem_map.2 ⟨(b, s), hb, rfl⟩))
    obtain ⟨⟨b', e⟩, hs, rfl⟩ := List.mem_map.1 this
    exact ⟨e, hs⟩
  · have hi' : i ∈ out.res.ids ++ out.hp.flatMap fun p => p.2.ids := by
      rw [List.mem_append]
      rcases hi with hi | ⟨b, e, hb, hi⟩
      · exact .inl hi
      · exact .inr (List.mem_flatMap.2 ⟨(b, .ent e), hb, hi⟩)
    obtain ⟨⟨b', s⟩, hs, rfl⟩ := List.mem_map.1 (memB_iff.1 (List.all_eq_true.1 o4 i hi'))
    exact ⟨s, hs⟩
/-- Function values. -/
def ptrsOf : List AV → Option (List (Nat × Nat))
  | [] => some []
  | .it (.one (.ptr b off)) :: l => match ptrsOf l with | some m => some ((b, off) :: m) | none => none
  | _ :: _ => none
theorem ptrsOf_spec : ∀ {l : List AV} {m : List (Nat × Nat)}, ptrsOf l = some m → l = m.map fun p => AV.ptr p.1 p.2
  | [], m, h => by simp [ptrsOf] at h; subst h; rfl
  | v :: l, m, h => by
    unfold ptrsOf at h
    split at h
    · rename_i heq; cases heq
    · rename_i b off l' heq
      cases heq
      split at h
      · rename_i m' hm
        cases h
        rw [List.map_cons, ptrsOf_spec hm]
      · cases h
    · cases h
theorem ptrs_has {E : Env} {S : Nat → Prop} {w : World} : ∀ {m : List (Nat × Nat)} {vs : List Value}, All2 (AV.has E S w) (m.map fun p => AV.ptr p.1 p.2) vs → vs = m.map fun p => Value.pointer (some ⟨E.blk p.1, p.2, none⟩)
  | [], [], _ => rfl
  | p :: m, v :: vs, h => by rw [List.map_cons, ← ptrs_has h.2, show v = _ from h.1]
  | [], _ :: _, h => h.elim
  | _ :: _, [], h => h.elim
theorem G.mkclo {f : FuncId} {caps : Array Operand} {l : List AV} {cap : List (Nat × Nat)} (next : Reg P C ops rest (st.app dst ⟨.it (.one (.clo f cap)), []⟩) (([], []) :: acc) K) (hd : dstOK dst C.nt = true := by rfl) (ha : evs st caps.toList = some l := by rfl) (hc : ptrsOf l = some cap := by rfl) : Go1 P C ops dst (.makeFunc (.func f) #[] caps) ty rest st acc K :=
  Go1.pureV [] [] (by simp) hd (by simp) (fun o ho _ st' E S a w hev hs _ => by
    have hop : o.op.operands = caps := by rw [ho]; simp [Op.operands]
    have ha' : evs st' caps.toList = some l := by rw [evs_congr (fun x hx => hev x (by rw [hop]; simpa using hx))]; exact ha
    obtain ⟨hall, hids⟩ := evs_has hs ha'
    have hl := ptrsOf_spec hc
    subst hl
    have hv := ptrs_has hall
    have har : caps.map a.eval = (cap.map fun p => Value.pointer (some ⟨E.blk p.1, p.2, none⟩)).toArray := by apply Array.ext'; simpa using hv
    refine ⟨fun i hi => ?_, _, by unfold execOp; rw [ho]; simp [Instr.makeFunc]; rfl, ?_⟩
    · obtain ⟨p, hp, rfl⟩ := List.mem_map.1 (show i ∈ cap.map (·.1) from hi)
      exact hids (AV.ptr p.1 p.2) (List.mem_map.2 ⟨p, hp, rfl⟩) p.1 (by simp [AV.ids, AV0.ids, Atom.ids])
    · show _ = Value.func (.func f) #[] _
      rw [har]) next
theorem G.mkbnd {f : FuncId} {b : Nat} (next : Reg P C ops rest (st.app dst ⟨.it (.one (.bnd f b)), []⟩) (([], []) :: acc) K) (hd : dstOK dst C.nt = true := by rfl) (hx : st.ev x = some (.ptr b 0) := by rfl) : Go1 P C ops dst (.makeFunc (.func f) #[x] #[]) ty rest st acc K :=
  Go1.pureV [] [] (by simp) hd (by simp) (fun o ho _ st' E S a w hev hs _ => by
    have hx' := hs.ev ((hev x (by simp [ho, Op.operands])).trans hx)
    refine ⟨fun i hi => hx'.2 i hi, _, by unfold execOp; rw [ho]; simp [Instr.makeFunc]; rfl, ?_⟩
    show _ = Value.func (.func f) #[_] #[]
    rw [show a.eval x = _ from hx'.1]) next
theorem G.nilCheckP {b off : Nat} (next : Reg P C ops rest (st.app dst ⟨.ptr b off, []⟩) (([], []) :: acc) K) (hd : dstOK dst C.nt = true := by rfl) (hx : st.ev x = some (.ptr b off) := by rfl) : Go1 P C ops dst (.nilCheck x) ty rest st acc K :=
  Go1.pureV [] [] (by simp) hd (by simp) (fun o ho _ st' E S a w hev hs _ => by
    have hx' := hs.ev ((hev x (by simp [ho, Op.operands])).trans hx)
    have hv : a.eval x = .pointer (some ⟨E.blk b, off, none⟩) := hx'.1
    exact ⟨fun i hi => hx'.2 i hi, _, by unfold execOp; rw [ho]; simp [hv], rfl⟩) next
/-- A mark: the variable that this place makes bears this name. -/
structure Named (d b : Nat) : Prop where
theorem OpOK.allocN {o : Oper} {b : Nat} {cells : List Atom} (hd : ∀ d, o.dst = some d → d < C.nt) (hf : st.hp b = .free)
    (h : ∀ st' E S a w, (∀ x ∈ o.op.operands, st'.ev x = st.ev x) → SatE C st' E S a w →
      (∀ i ∈ cells.flatMap Atom.ids, (st'.hp i).used = true) ∧ ∃ cs, (execOp a.eval o).run P w = .ok (.value (.pointer (some ⟨w.heap.size, 0, none⟩))) (w.alloc (.cells cs t)) ∧ All2 (Atom.has E S w) cells cs.toList) :
    OpOK P C o st [b] ⟨.ptr b 0, [(b, .ent (.box t cells))]⟩ := by
  refine OpOK.eff [] [] (fun b hb => ?_) hd (fun b e hb => by cases hb) (fun b e hb => by cases hb) (fun b s hb => ?_) (fun b s hb => ?_) (fun st' E S a w hev hhp hs _ _ => ?_)
  · rcases hb with ⟨e, hb⟩ | ⟨e, hb⟩ | ⟨s, hb⟩
    · cases hb
    · cases hb
    · simp at hb; simp [hb.1]
  · simp at hb; rw [hb.1]; exact .inr hf
  · simp at hb; rw [hb.2]; rfl
  · obtain ⟨hid, cs, hr, hall⟩ := h st' E S a w hev hs
    have hfree : st'.hp b = .free := (hhp b (by simp)).trans hf
    refine ⟨⟨fun i hi => ?_, fun b e hb i hi => ?_⟩, fun K Q hK => ?_⟩
    · simp [AV.ids, AV0.ids, Atom.ids] at hi; subst hi; simp [updL, Slot.used]
    · simp at hb
      obtain ⟨rfl, rfl⟩ := hb
      by_cases e : i = b
      · subst e; simp [updL, Slot.used]
      · simp only [updL]; rw [upd_ne _ _ e]; exact hid i hi
    · have hE := Eff.alloc (E := E) (S := S) (w := w) (b := b) (T := t) (cells := cells) (cs := cs.toList) hs.lt (fun c hc1 hc2 => by
        have := hid b (List.mem_flatMap.2 ⟨c, hc1, hc2⟩)
        rw [hfree] at this; cases this) hall
      unfold Oper.wp
      rw [hr]
      exact hK _ _ _ _ hE
theorem G.boxN {v : AV0} {b : Nat} (next : Reg P C ops rest (st.app (some d) ⟨.ptr b 0, [(b, .ent (.box t v.cells))]⟩) (([b], [b]) :: acc) K) (hm : Named d b := by assumption) (hd : dstOK (some d) C.nt = true := by rfl) (hx : st.ev x = some (.it v) := by rfl) (hf : st.hp b = .free := by rfl) (h1 : v.cells.all Atom.oneB = true := by rfl) : Go1 P C ops (some d) (.box t x) ty rest st acc K :=
  ⟨[b], ⟨.ptr b 0, [(b, .ent (.box t v.cells))]⟩, fun o h2 h3 h4 => OpOK.allocN (h2 ▸ dstOK_spec hd) hf (fun st' E S a w hev hs => by
    obtain ⟨hv, hids⟩ := hs.ev ((hev x (by simp [h3, Op.operands])).trans hx)
    obtain ⟨us, hc, hall, hone⟩ := AV0.has.cells hv h1
    refine ⟨fun i hi => hids i (by rw [AV0.ids_cells] at hi; exact hi), us.toArray, ?_, by simpa using hall⟩
    unfold execOp; rw [h3]; simp [Instr.box, newVar, newRow, hc]), next⟩
theorem G.allocN {cells : List Value} {b : Nat} [hz : TZero P t cells] (next : Reg P C ops rest (st.app (some d) ⟨.ptr b 0, [(b, .ent (.box t (cells.map fun v => Atom.c (.val v))))]⟩) (([b], [b]) :: acc) K) (hm : Named d b := by assumption) (hd : dstOK (some d) C.nt = true := by rfl) (hf : st.hp b = .free := by rfl) : Go1 P C ops (some d) (.alloc t) ty rest st acc K :=
  ⟨[b], ⟨.ptr b 0, [(b, .ent (.box t (cells.map fun v => Atom.c (.val v))))]⟩, fun o h2 h3 h4 => OpOK.allocN (h2 ▸ dstOK_spec hd) hf (fun st' E S a w hev hs => by
    obtain ⟨z, hz1, hz2⟩ := run_zeroCells hz.h w
    refine ⟨fun i hi => ?_, cells.toArray, ?_, by simpa using all2_vals cells⟩
    · obtain ⟨c, hc, hi⟩ := List.mem_flatMap.1 hi
      obtain ⟨v, _, rfl⟩ := List.mem_map.1 hc
      cases hi
    · unfold execOp; rw [h3]; simp [Instr.alloc, newVar, newRow, hz1, hz2]), next⟩
theorem RetF.frzP {rs : List ResultVar} {out : Out} (b : Nat) {size n : Nat} {ps : List Nat} {cells : List CA} (h : RetF C P rs out (st.frz b size n cells)) (hB : ∀ k, C.B k → k ∈ ps.map C.E0.blk := by assumption) (hps : (ps.all fun p => C.fix p && (st.hp p).isBox && !Nat.beq p b) = true := by rfl) (hb : st.hp b = .ent (.row t size n cells) := by rfl) : RetF C P rs out st := by
  obtain ⟨s', hl, hr⟩ := h
  exact ⟨s', fun a w hs => hl a w (St.le_frzP hB hps hb a w hs), hr⟩
/-- Do the boxes stand as they should? -/
def HpIs (st : St) : List (Nat × Slot) → Prop
  | [] => True
  | (b, s) :: l => st.hp b = s ∧ HpIs st l
theorem HpIs.spec {st : St} : ∀ {l : List (Nat × Slot)}, HpIs st l → ∀ b e, (b, Slot.ent e) ∈ l → st.hp b = .ent e
  | [], _, _, _, h => by cases h
  | (b', s) :: l, hh, b, e, h => by
    rcases List.mem_cons.1 h with h | h
    · cases h; exact hh.1
    · exact hh.2.spec b e h
theorem retP {rs : List ResultVar} {xs : List AV0} {l : List (Nat × Slot)} (h : All2 (ResOK P st) rs xs) (hh : HpIs st l) : RetF C P rs ⟨resAV xs, l⟩ st := .ok ⟨xs, h, rfl, hh.spec⟩
end
section
variable {P : Program} {C : Ctx} {st : St}
variable {ops rest : List Oper} {acc : List (List Nat × List Nat)} {K : List (List Nat × List Nat) → St → Prop} {dst : Option Tmp} {d : Tmp} {ty t : TypeId} {x y z : Operand}
theorem spl_mid {A B D X : List Atom} (h : X.length = B.length) : spl (A ++ B ++ D) A.length X = A ++ X ++ D := by
  have e1 : (A ++ B ++ D).drop (A.length + X.length) = D := List.drop_left' (by rw [List.length_append, h])
  have e2 : (A ++ B ++ D).take A.length = A := by rw [List.append_assoc]; exact List.take_left' rfl
  rw [spl_eq _ _ _ (by simp only [List.length_append]; omega), e1, e2]
theorem fillA_step {size n i : Nat} {v : AV0} {ps : List (Nat × AV0)} {A B D : List Atom} (hi : i < n) (hA : A.length = i * size) (hB : B.length = size) (hv : v.cells.length = size) : fillA (placesOf n size) (A ++ B ++ D) ((i, v) :: ps) = fillA (placesOf n size) (A ++ v.cells ++ D) ps := by
  have hpl : (placesOf n size)[i]? = some (i * size, size) := by simp [placesOf, hi]
  have e1 : Nat.beq v.cells.length size = true := by rw [hv]; exact Nat.beq_refl _
  have e2 : Nat.ble (i * size + size) (A ++ B ++ D).length = true := by rw [Nat.ble_eq]; simp only [List.length_append]; omega
  conv => lhs; unfold fillA
  simp only [hpl, e1, e2, Bool.and_self]
  rw [← hA, spl_mid (by omega)]
theorem blocks {n size : Nat} {zs : List Value} (i : Nat) (hi : i < n) : ∃ Z : List Atom, Z.length = size ∧ ∃ R : List Atom, R.length = (n - i - 1) * size ∧ (((madeCells zs.toArray (n * size)).toList.map fun v => Atom.c (.val v)).drop (i * size)) = Z ++ R := by
  have hz : ((madeCells zs.toArray (n * size)).toList.map fun v => Atom.c (.val v)).length = n * size := by simp [size_madeCells]
  generalize ((madeCells zs.toArray (n * size)).toList.map fun v => Atom.c (.val v)) = W at hz
  have h1 : n * size = (n - i - 1) * size + (i * size + size) := by
    rw [← Nat.succ_mul, ← Nat.add_mul]; congr 1; omega
  refine ⟨(W.drop (i * size)).take size, ?_, (W.drop (i * size)).drop size, ?_, (List.take_append_drop _ _).symm⟩
  · rw [List.length_take, List.length_drop]; omega
  · rw [List.length_drop, List.length_drop]; omega
theorem fill2 {size : Nat} {zs : List Value} {v1 v2 : AV0} (h1 : v1.cells.length = size) (h2 : v2.cells.length = size) : fillA (placesOf 2 size) ((madeCells zs.toArray (2 * size)).toList.map fun v => Atom.c (.val v)) [(0, v1), (1, v2)] = some (v1.cells ++ v2.cells) := by
  obtain ⟨Z, hZ, R, hR, e⟩ := blocks (n := 2) (size := size) (zs := zs) 0 (by omega)
  rw [Nat.zero_mul, List.drop_zero] at e
  rw [e, ← List.nil_append Z, fillA_step (by omega) (by simp) hZ h1, List.nil_append]
  have hR' : R.length = size := by omega
  rw [← List.append_nil R, ← List.append_assoc, fillA_step (by omega) (by omega) hR' h2, List.append_nil]; rfl
theorem fill3 {size : Nat} {zs : List Value} {v1 v2 v3 : AV0} (h1 : v1.cells.length = size) (h2 : v2.cells.length = size) (h3 : v3.cells.length = size) : fillA (placesOf 3 size) ((madeCells zs.toArray (3 * size)).toList.map fun v => Atom.c (.val v)) [(0, v1), (1, v2), (2, v3)] = some (v1.cells ++ v2.cells ++ v3.cells) := by
  obtain ⟨Z, hZ, R, hR, e⟩ := blocks (n := 3) (size := size) (zs := zs) 0 (by omega)
  rw [Nat.zero_mul, List.drop_zero] at e
  rw [e, ← List.nil_append Z, fillA_step (by omega) (by simp) hZ h1, List.nil_append]
  have hR' : R.length = size + size := by omega
  obtain ⟨R1, R2, hr1, hr2, rfl⟩ : ∃ R1 R2 : List Atom, R1.length = size ∧ R2.length = size ∧ R = R1 ++ R2 := ⟨R.take size, R.drop size, by rw [List.length_take]; omega, by rw [List.length_drop]; omega, (List.take_append_drop _ _).symm⟩
  rw [← List.append_assoc, fillA_step (by omega) (by omega) hr1 h2]
  rw [← List.append_nil R2, ← List.append_assoc, fillA_step (by omega) (by simp only [List.length_append]; omega) hr2 h3, List.append_nil]; rfl
/-- Slices of two and of three elements, written out. -/
def litB (size : Nat) (v : AV0) (m : List CA) : Bool := Nat.beq m.length size && Nat.ble size 1000 && v.cells.all Atom.oneB
theorem litB_spec {size : Nat} {v : AV0} {m : List CA} (hc : closedL v.cells = some m) (h : litB size v m = true) : m.length = size ∧ size ≤ 1000 ∧ (v.cells.all Atom.oneB) = true ∧ v.cells.length = size := by
  unfold litB at h
  simp only [Bool.and_eq_true] at h
  obtain ⟨⟨h1, h2⟩, h3⟩ := h
  have hl : m.length = size := Nat.eq_of_beq_eq_true h1
  exact ⟨hl, by simpa [Nat.ble_eq] using h2, h3, by rw [← closedL_len hc]; exact hl⟩
theorem closedL_append : ∀ {a b : List Atom} {m k : List CA}, closedL a = some m → closedL b = some k → closedL (a ++ b) = some (m ++ k)
  | [], b, m, k, ha, hb => by simp [closedL] at ha; subst ha; exact hb
  | x :: a, b, m, k, ha, hb => by
    cases x with
    | c x =>
      unfold closedL at ha
      cases h1 : closedL a with
      | none => simp [h1] at ha
      | some m' =>
        simp [h1] at ha; subst ha
        rw [List.cons_append]
        unfold closedL
        rw [closedL_append h1 hb]; rfl
    | ptr _ _ => simp [closedL] at ha
    | own _ => simp [closedL] at ha
    | rptr _ _ => simp [closedL] at ha
    | clo _ _ => simp [closedL] at ha
    | bnd _ _ => simp [closedL] at ha
    | rel _ _ => simp [closedL] at ha
theorem G.lit2Own {e : TypeId} {size bytes : Nat} {zs : List Value} {v1 v2 : AV0} {m1 m2 : List CA} [ht : TSlice P t e size] [he : TElem P e zs bytes] (next : Reg P C ops rest (st.app (some d) ⟨.own d, [(d, .ent (.row e size 2 (m1 ++ m2)))]⟩) (([d], [d]) :: acc) K) (hown : OwnLit d := by assumption) (hd : dstOK (some d) C.nt = true := by rfl) (hf : st.hp d = .free := by rfl) (hx : st.ev x = some (.it v1) := by rfl) (hy : st.ev y = some (.it v2) := by rfl) (hc1 : closedL v1.cells = some m1 := by rfl) (hc2 : closedL v2.cells = some m2 := by rfl)
    (hm1 : litB size v1 m1 = true := by rfl) (hm2 : litB size v2 m2 = true := by rfl) : Go1 P C ops (some d) (.buildSlice t 2 #[(0, x), (1, y)]) ty rest st acc K := by
  obtain ⟨a1, a2, a3, a4⟩ := litB_spec hc1 hm1
  obtain ⟨b1, b2, b3, b4⟩ := litB_spec hc2 hm2
  refine Go1.buildSlice (ps := [(0, v1), (1, v2)]) (l := v1.cells ++ v2.cells) (m := m1 ++ m2) hd hf (by simp only [evp, hx, hy]) ?_ ?_ (fill2 a4 b4) (closedL_append hc1 hc2) ?_ next
  · simp only [List.all_cons, List.all_nil, Bool.and_true, a3, b3, Bool.true_and]; rfl
  · rw [Nat.ble_eq]; omega
  · rw [List.length_append, a1, b1, Nat.two_mul]; exact Nat.beq_refl _
theorem G.lit2 {e : TypeId} {size bytes : Nat} {zs : List Value} {v1 v2 : AV0} {m1 m2 : List CA} [ht : TSlice P t e size] [he : TElem P e zs bytes] (next : Reg P C ops rest (st.app dst ⟨.r (sliceR size 2 (m1 ++ m2)), []⟩) (([], []) :: acc) K) (hd : dstOK dst C.nt = true := by rfl) (hx : st.ev x = some (.it v1) := by rfl) (hy : st.ev y = some (.it v2) := by rfl) (hc1 : closedL v1.cells = some m1 := by rfl) (hc2 : closedL v2.cells = some m2 := by rfl)
    (hm1 : litB size v1 m1 = true := by rfl) (hm2 : litB size v2 m2 = true := by rfl) : Go1 P C ops dst (.buildSlice t 2 #[(0, x), (1, y)]) ty rest st acc K := by
  obtain ⟨a1, a2, a3, a4⟩ := litB_spec hc1 hm1
  obtain ⟨b1, b2, b3, b4⟩ := litB_spec hc2 hm2
  refine Go1.buildSliceF (ps := [(0, v1), (1, v2)]) (l := v1.cells ++ v2.cells) (m := m1 ++ m2) hd (by simp only [evp, hx, hy]) ?_ ?_ (fill2 a4 b4) (closedL_append hc1 hc2) ?_ next
  · simp only [List.all_cons, List.all_nil, Bool.and_true, a3, b3, Bool.true_and]; rfl
  · rw [Nat.ble_eq]; omega
  · rw [List.length_append, a1, b1, Nat.two_mul]; exact Nat.beq_refl _
theorem G.lit3 {e : TypeId} {size bytes : Nat} {zs : List Value} {v1 v2 v3 : AV0} {m1 m2 m3 : List CA} [ht : TSlice P t e size] [he : TElem P e zs bytes] (next : Reg P C ops rest (st.app dst ⟨.r (sliceR size 3 (m1 ++ m2 ++ m3)), []⟩) (([], []) :: acc) K) (hd : dstOK dst C.nt = true := by rfl) (hx : st.ev x = some (.it v1) := by rfl) (hy : st.ev y = some (.it v2) := by rfl) (hz : st.ev z = some (.it v3) := by rfl) (hc1 : closedL v1.cells = some m1 := by rfl) (hc2 : closedL v2.cells = some m2 := by rfl) (hc3 : closedL v3.cells = some m3 := by rfl)
    (hm1 : litB size v1 m1 = true := by rfl) (hm2 : litB size v2 m2 = true := by rfl) (hm3 : litB size v3 m3 = true := by rfl) : Go1 P C ops dst (.buildSlice t 3 #[(0, x), (1, y), (2, z)]) ty rest st acc K := by
  obtain ⟨a1, a2, a3, a4⟩ := litB_spec hc1 hm1
  obtain ⟨b1, b2, b3, b4⟩ := litB_spec hc2 hm2
  obtain ⟨c1, c2, c3, c4⟩ := litB_spec hc3 hm3
  refine Go1.buildSliceF (ps := [(0, v1), (1, v2), (2, v3)]) (l := v1.cells ++ v2.cells ++ v3.cells) (m := m1 ++ m2 ++ m3) hd (by simp only [evp, hx, hy, hz]) ?_ ?_ (fill3 a4 b4 c4) (closedL_append (closedL_append hc1 hc2) hc3) ?_ next
  · simp only [List.all_cons, List.all_nil, Bool.and_true, a3, b3, c3, Bool.true_and]; rfl
  · rw [Nat.ble_eq]; omega
  · rw [List.length_append, List.length_append, a1, b1, c1, show 3 * size = size + size + size by omega]; exact Nat.beq_refl _
end
section
variable {P : Program} {C : Ctx} {st : St}
variable {ops rest : List Oper} {acc : List (List Nat × List Nat)} {K : List (List Nat × List Nat) → St → Prop} {dst : Option Tmp} {d : Tmp} {ty t e : TypeId} {x y : Operand} {k : IntKind} {i n size : Nat} {zi : Int}
/-- An array's length and its element. -/
class TArr (P : Program) (t : TypeId) (n : outParam Nat) (e : outParam TypeId) (size : outParam Nat) : Prop where
  h : P.underlying t = some (.array n e)
  s : (P.info? e).map (·.size) = some size
theorem closedL_ids {l : List Atom} {m : List CA} (h : closedL l = some m) : l.flatMap Atom.ids = [] := by
  rw [closedL_spec h]
  clear h
  induction m with
  | nil => rfl
  | cons a m ih => rw [List.map_cons, List.flatMap_cons, ih]; rfl
/-- An array, written out. -/
theorem G.buildA {zs : List Value} {parts : Array (Nat × Operand)} {ps : List (Nat × AV0)} {l : List Atom} {m : List CA} [ht : TArr P t n e size] [hz : TZero P t zs] (next : Reg P C ops rest (st.app (some d) ⟨.agg l, []⟩) (([], []) :: acc) K) (hd : dstOK (some d) C.nt = true := by rfl) (hp : evp st parts.toList = some ps := by rfl) (h1 : (ps.all fun p => p.2.cells.all Atom.oneB && Nat.blt p.1 n) = true := by rfl)
    (hf : fillA (placesOf n size) (zs.map fun v => Atom.c (.val v)) ps = some l := by rfl) (hc : closedL l = some m := by rfl) : Go1 P C ops (some d) (.build t parts) ty rest st acc K :=
  Go1.pureV [] [] (by simp) hd (by simp) (fun o ho _ st' E S a w hev hs _ => by
    have hp' : evp st' parts.toList = some ps := by
      rw [evp_congr (fun x hx => hev x.2 (by rw [ho]; simp [Op.operands]; exact ⟨x.1, by simpa using hx⟩))]; exact hp
    obtain ⟨hall, hids⟩ := evp_has hs hp'
    obtain ⟨z, hz1, hz2⟩ := run_zeroCells hz.h w
    have hu := run_underlying ht.h (w := w)
    have hsz := run_sizeOf ht.s w
    rw [List.all_eq_true] at h1
    obtain ⟨us, hfill, hus⟩ := fill_has (w := w) (cs := zs) hall (fun p hp => by have := h1 p hp; rw [Bool.and_eq_true] at this; exact this.1) (all2_vals zs) hf
    have hfill' : Instr.fill (fun i => some (i * size, size)) zs.toArray (parts.toList.map fun x => (x.1, a.eval x.2)) = some us.toArray := by
      rw [← hfill]
      refine fill_congr _ _ fun q hq => ?_
      obtain ⟨j, hj⟩ := List.getElem?_of_mem hq
      obtain ⟨p, hp1, hp2⟩ := All2.get' hall hj
      have := h1 p (List.mem_of_getElem? hp1)
      rw [Bool.and_eq_true] at this
      have hlt : q.1 < n := by rw [← hp2.1]; simpa [Nat.blt_eq] using this.2
      simp [placesOf, hlt]
    refine ⟨fun j hj => ?_, .agg us.toArray, ?_, us, rfl, hus⟩
    · have : j ∈ l.flatMap Atom.ids := hj
      rw [closedL_ids hc] at this; cases this
    · unfold execOp; rw [ho]
      simp only [Instr.build, Sem.run_bind, Sem.run_pure, Result.andThen_ok, hz1, hz2, hu, hsz, Array.toList_map]
      rw [hfill']
      rfl) next
/-- An array's element of one cell. -/
theorem G.indexA {l : List Atom} {a : Atom} [ht : TArr P t n e 1] [ho : TOne P e] (next : Reg P C ops rest (st.app dst ⟨.it (.one a), []⟩) (([], []) :: acc) K) (hd : dstOK dst C.nt = true := by rfl) (hx : st.ev x = some (.agg l) := by rfl) (hy : st.ev y = some (.v (.int k zi)) := by rfl) (hy0 : zi = (i : Int) := by first | with_reducible rfl | exact SX.litN _ | rfl) (hi : i < n := by omega) (ha : l[i]? = some a := by rfl) : Go1 P C ops dst (.index t x y) ty rest st acc K :=
  Go1.pureV [] [] (by simp) hd (by simp) (fun o ho' _ st' E S b w hev hs _ => by
    obtain ⟨⟨vs, hv, hall⟩, hids⟩ := hs.ev ((hev x (by simp [ho', Op.operands])).trans hx)
    have hyv : b.eval y = .int k zi := (hs.ev ((hev y (by simp [ho', Op.operands])).trans hy)).1
    obtain ⟨v, hv1, hv2⟩ := All2.get hall ha
    have hsz := run_sizeOf ho.s w
    have hag := run_isAgg ho.h w
    refine ⟨fun j hj => hids j (List.mem_flatMap.2 ⟨a, List.mem_of_getElem? ha, hj⟩), v, ?_, hv2⟩
    subst hy0
    unfold execOp; rw [ho']
    simp [hv, hyv, Instr.index, asIntOf, run_underlying ht.h, hi, hsz, part, hag, hv1]) next
end
section
variable {P : Program} {C : Ctx} {st : St}
variable {ops rest : List Oper} {acc : List (List Nat × List Nat)} {K : List (List Nat × List Nat) → St → Prop} {dst : Option Tmp} {d : Tmp} {ty t : TypeId} {x y : Operand}
theorem G.load5 {b off : Nat} {T : TypeId} {cells : List Atom} {a1 a2 a3 a4 a5 : Atom} [ht : TAgg P t 5] (next : Reg P C ops rest (st.app (some d) ⟨.agg [a1, a2, a3, a4, a5], []⟩) (([b], []) :: acc) K) (hd : dstOK (some d) C.nt = true := by rfl) (hx : st.ev x = some (.ptr b off) := by rfl) (hb : st.hp b = .ent (.box T cells) := by rfl) (hr : (cells.drop off).take 5 = [a1, a2, a3, a4, a5] := by rfl) : Go1 P C ops (some d) (.load t x) ty rest st acc K :=
  Go1.loadAgg hd hx hb (by have := congrArg List.length hr; simp at this; rw [Nat.ble_eq]; omega) hr next
theorem G.build5 {pl : List (Nat × Nat)} {zs : List Value} {parts : Array (Nat × Operand)} {ps : List (Nat × AV0)} {a1 a2 a3 a4 a5 : Atom} [ht : TStruct P t pl] [hz : TZero P t zs] (next : Reg P C ops rest (st.app (some d) ⟨.agg [a1, a2, a3, a4, a5], []⟩) (([], []) :: acc) K) (hd : dstOK (some d) C.nt = true := by rfl) (hp : evp st parts.toList = some ps := by rfl) (h1 : (ps.all fun p => p.2.cells.all Atom.oneB) = true := by rfl) (hf : fillA pl (zs.map fun v => Atom.c (.val v)) ps = some [a1, a2, a3, a4, a5] := by rfl) : Go1 P C ops (some d) (.build t parts) ty rest st acc K :=
  Go1.build hd hp h1 hf next
theorem ResOK.agg5 {t : Tmp} {T T' : TypeId} {b off : Nat} {cells : List Atom} {a1 a2 a3 a4 a5 : Atom} [ht : TAgg P T 5] (h : st.tm t = some (.ptr b off)) (hb : st.hp b = .ent (.box T' cells)) (hr : (cells.drop off).take 5 = [a1, a2, a3, a4, a5]) : ResOK P st (.cell t T) (.agg [a1, a2, a3, a4, a5]) :=
  ResOK.agg h hb (by have := congrArg List.length hr; simp at this; rw [Nat.ble_eq]; omega) hr
/-- What is not looked at. -/
def junkR : Rep where
  has _ _ v := v.oneCell' = true
  one h := h
  step h _ _ := h
theorem junk_of {a : Atom} {E : Env} {S : Nat → Prop} {w : World} {v : Value} (h : a.has E S w v) (hb : a.oneB = true) : (Atom.c (.sat junkR)).has E S w v := Atom.has.one h hb
end
structure HeldP (q : Prop) : Prop where
  out : q
theorem goP {p q : Prop} (h : q) (k : HeldP q → p := by
    intro h
    (first
      | (refine SX.Go1.is ?_; first
          | (refine SX.Go1.isLoad ?_; first | refine SX.G.load2 ?_ | refine SX.G.load1 ?_ | refine SX.G.loadR1 ?_ | refine SX.G.loadR2 ?_ | refine SX.G.load4 ?_ | refine SX.G.loadR4 ?_ | refine SX.G.load5 ?_ | refine SX.G.load3 ?_ | refine SX.G.loadR3 ?_ | refine SX.G.loadOW ?_ | refine SX.G.loadO1 ?_)
          | (refine SX.Go1.isBin ?_; first | refine SX.G.lss ?_ | refine SX.G.eql ?_ | refine SX.G.neq ?_ | refine SX.G.gtr ?_ | refine SX.G.geq ?_ | refine SX.G.leq ?_ | refine SX.G.addN ?_ | refine SX.G.addNu ?_ | refine SX.G.subN ?_ | refine SX.G.subNu ?_ | refine SX.G.add ?_ | refine SX.G.sub ?_ | refine SX.G.mulN ?_ | refine SX.G.mulNu ?_ | refine SX.G.mul ?_ | refine SX.G.quoN ?_ | refine SX.G.quoNu ?_ | refine SX.G.quo ?_ | refine SX.G.remN ?_ | refine SX.G.remNu ?_ | refine SX.G.rem ?_ | refine SX.G.eqlT ?_ | refine SX.G.neqT ?_ | refine SX.G.eqlB ?_ | refine SX.G.neqB ?_ | refine SX.G.shr ?_ | refine SX.G.shl ?_ | refine SX.G.and ?_ | refine SX.G.addT ?_)
          | (refine SX.Go1.isUn ?_; first | refine SX.G.not ?_ | refine SX.G.neg ?_)
          | (refine SX.Go1.isField ?_; first | refine SX.G.fieldAddr ?_ | refine SX.G.fieldAddrR ?_)
          | (refine SX.Go1.isBuild ?_; first | refine SX.G.buildA ?_ | refine SX.G.build2 ?_ | refine SX.G.build3 ?_ | refine SX.G.build4 ?_ | refine SX.G.build5 ?_ | refine SX.G.build ?_)
          | (refine SX.Go1.isStore ?_; first | refine SX.G.store ?_ | refine SX.G.storeP ?_ | refine SX.G.storeO ?_)
          | (refine SX.Go1.isIx ?_; first | refine SX.G.indexAddrW ?_ | refine SX.G.indexAddrV ?_ | refine SX.G.indexAddrR ?_ | refine SX.G.indexAddrO ?_)
          | (refine SX.Go1.isBuildS ?_; first | refine SX.G.litOwn ?_ | refine SX.G.lit2Own ?_ | refine SX.G.lit2 ?_ | refine SX.G.lit3 ?_ | refine SX.G.lit1 ?_)
          | (refine SX.Go1.isCall ?_; first | refine SX.G.minN ?_ | refine SX.G.maxN ?_ | refine SX.G.lenR ?_ | refine SX.G.lenN ?_ | refine SX.G.lenT ?_ | refine SX.G.lenS ?_ | refine SX.G.lenO ?_ | refine SX.G.appendW ?_ | refine SX.G.appendNilW ?_ | refine SX.G.callP ?_ | refine SX.G.callB ?_ | refine SX.G.callOwn ?_ | refine SX.G.call ?_)
          | refine SX.G.move ?_ | refine SX.G.assign ?_ | refine SX.G.extract ?_ | refine SX.G.boxN ?_ | refine SX.G.box ?_ | refine SX.G.allocN ?_ | refine SX.G.alloc ?_ | refine SX.G.nilCheckP ?_ | refine SX.G.mkclo ?_ | refine SX.G.mkbnd ?_ | refine SX.G.pick ?_ | refine SX.R.pickT ?_ | refine SX.R.pickF ?_ | refine SX.G.pickB ?_ | refine SX.G.pickV ?_ | refine SX.G.makeN ?_ | refine SX.G.convN ?_ | refine SX.G.conv ?_ | refine SX.G.convBS ?_ | refine SX.G.sliceHiW ?_ | refine SX.G.sliceLoW ?_ | refine SX.G.sliceHiR ?_ | refine SX.G.sliceLoR ?_ | refine SX.G.sliceHiO ?_ | refine SX.G.sliceHiT ?_ | refine SX.G.sliceLoT ?_ | refine SX.G.sliceLHT ?_ | refine SX.G.indexA ?_ | refine SX.G.indexT ?_ | refine SX.G.sliceHiS ?_ | refine SX.G.sliceLoS ?_ | refine SX.G.sliceLHS ?_ | refine SX.G.indexS ?_)
      | (refine SX.Reg.is ?_; first | refine SX.Reg.go ?_ | refine SX.R.runT ?_ | refine SX.R.runF ?_ | refine SX.R.skipT ?_ | refine SX.R.skipF ?_ | refine SX.R.skipU ?_ | refine SX.Reg.nil ⟨by kernel_rfl, ?_⟩ | refine SX.Reg.nil ?_)
      | (refine SX.WP.is ?_; first | refine SX.WP.seq ?_ | refine SX.WP.regionL ?_ | refine SX.WP.regionDL (by kernel_rfl) ?_ | refine SX.WP.block ?_ | refine SX.WP.skip ?_ | refine SX.WP.exit ?_ | refine SX.WP.ret ?_ | refine SX.WP.label ?_ | refine SX.W.condT ?_ | refine SX.W.condF ?_)
      | refine SX.thenN ?_ | refine SX.thenE ?_ | refine SX.thenR ?_ | refine SX.inBlkN ?_ | refine SX.inBlkR ?_ | refine SX.inBlkE ?_ | refine SX.inBlkO rfl ?_ | refine SX.retR ?_ | refine SX.retN ?_ | refine SX.retFR ?_ | refine SX.retFN ?_)
    repeat (first
      | (refine SX.Go1.is ?_; first
          | (refine SX.Go1.isLoad ?_; first | refine SX.G.load2 ?_ | refine SX.G.load1 ?_ | refine SX.G.loadR1 ?_ | refine SX.G.loadR2 ?_ | refine SX.G.load4 ?_ | refine SX.G.loadR4 ?_ | refine SX.G.load5 ?_ | refine SX.G.load3 ?_ | refine SX.G.loadR3 ?_ | refine SX.G.loadOW ?_ | refine SX.G.loadO1 ?_)
          | (refine SX.Go1.isBin ?_; first | refine SX.G.lss ?_ | refine SX.G.eql ?_ | refine SX.G.neq ?_ | refine SX.G.gtr ?_ | refine SX.G.geq ?_ | refine SX.G.leq ?_ | refine SX.G.addN ?_ | refine SX.G.addNu ?_ | refine SX.G.subN ?_ | refine SX.G.subNu ?_ | refine SX.G.add ?_ | refine SX.G.sub ?_ | refine SX.G.mulN ?_ | refine SX.G.mulNu ?_ | refine SX.G.mul ?_ | refine SX.G.quoN ?_ | refine SX.G.quoNu ?_ | refine SX.G.quo ?_ | refine SX.G.remN ?_ | refine SX.G.remNu ?_ | refine SX.G.rem ?_ | refine SX.G.eqlT ?_ | refine SX.G.neqT ?_ | refine SX.G.eqlB ?_ | refine SX.G.neqB ?_ | refine SX.G.shr ?_ | refine SX.G.shl ?_ | refine SX.G.and ?_ | refine SX.G.addT ?_)
          | (refine SX.Go1.isUn ?_; first | refine SX.G.not ?_ | refine SX.G.neg ?_)
          | (refine SX.Go1.isField ?_; first | refine SX.G.fieldAddr ?_ | refine SX.G.fieldAddrR ?_)
          | (refine SX.Go1.isBuild ?_; first | refine SX.G.buildA ?_ | refine SX.G.build2 ?_ | refine SX.G.build3 ?_ | refine SX.G.build4 ?_ | refine SX.G.build5 ?_ | refine SX.G.build ?_)
          | (refine SX.Go1.isStore ?_; first | refine SX.G.store ?_ | refine SX.G.storeP ?_ | refine SX.G.storeO ?_)
          | (refine SX.Go1.isIx ?_; first | refine SX.G.indexAddrW ?_ | refine SX.G.indexAddrV ?_ | refine SX.G.indexAddrR ?_ | refine SX.G.indexAddrO ?_)
          | (refine SX.Go1.isBuildS ?_; first | refine SX.G.litOwn ?_ | refine SX.G.lit2Own ?_ | refine SX.G.lit2 ?_ | refine SX.G.lit3 ?_ | refine SX.G.lit1 ?_)
          | (refine SX.Go1.isCall ?_; first | refine SX.G.minN ?_ | refine SX.G.maxN ?_ | refine SX.G.lenR ?_ | refine SX.G.lenN ?_ | refine SX.G.lenT ?_ | refine SX.G.lenS ?_ | refine SX.G.lenO ?_ | refine SX.G.appendW ?_ | refine SX.G.appendNilW ?_ | refine SX.G.callP ?_ | refine SX.G.callB ?_ | refine SX.G.callOwn ?_ | refine SX.G.call ?_)
          | refine SX.G.move ?_ | refine SX.G.assign ?_ | refine SX.G.extract ?_ | refine SX.G.boxN ?_ | refine SX.G.box ?_ | refine SX.G.allocN ?_ | refine SX.G.alloc ?_ | refine SX.G.nilCheckP ?_ | refine SX.G.mkclo ?_ | refine SX.G.mkbnd ?_ | refine SX.G.pick ?_ | refine SX.R.pickT ?_ | refine SX.R.pickF ?_ | refine SX.G.pickB ?_ | refine SX.G.pickV ?_ | refine SX.G.makeN ?_ | refine SX.G.convN ?_ | refine SX.G.conv ?_ | refine SX.G.convBS ?_ | refine SX.G.sliceHiW ?_ | refine SX.G.sliceLoW ?_ | refine SX.G.sliceHiR ?_ | refine SX.G.sliceLoR ?_ | refine SX.G.sliceHiO ?_ | refine SX.G.sliceHiT ?_ | refine SX.G.sliceLoT ?_ | refine SX.G.sliceLHT ?_ | refine SX.G.indexA ?_ | refine SX.G.indexT ?_ | refine SX.G.sliceHiS ?_ | refine SX.G.sliceLoS ?_ | refine SX.G.sliceLHS ?_ | refine SX.G.indexS ?_)
      | (refine SX.Reg.is ?_; first | refine SX.Reg.go ?_ | refine SX.R.runT ?_ | refine SX.R.runF ?_ | refine SX.R.skipT ?_ | refine SX.R.skipF ?_ | refine SX.R.skipU ?_ | refine SX.Reg.nil ⟨by kernel_rfl, ?_⟩ | refine SX.Reg.nil ?_)
      | (refine SX.WP.is ?_; first | refine SX.WP.seq ?_ | refine SX.WP.regionL ?_ | refine SX.WP.regionDL (by kernel_rfl) ?_ | refine SX.WP.block ?_ | refine SX.WP.skip ?_ | refine SX.WP.exit ?_ | refine SX.WP.ret ?_ | refine SX.WP.label ?_ | refine SX.W.condT ?_ | refine SX.W.condF ?_)
      | refine SX.thenN ?_ | refine SX.thenE ?_ | refine SX.thenR ?_ | refine SX.inBlkN ?_ | refine SX.inBlkR ?_ | refine SX.inBlkE ?_ | refine SX.inBlkO rfl ?_ | refine SX.retR ?_ | refine SX.retN ?_ | refine SX.retFR ?_ | refine SX.retFN ?_)
    exact h.out) : p := k ⟨h⟩
end SX
/- Boxes that are written no more; functions as values. No program in sight. -/
set_option linter.unusedVariables false
set_option linter.unusedSimpArgs false
namespace SX
open Go Go.RowKit
def mpL (σ : Atom → Atom) : List Atom → List Atom
  | [] => []
  | a :: l => σ a :: mpL σ l
def AV0.mp (σ : Atom → Atom) : AV0 → AV0
  | .one a => .one (σ a)
  | .agg l => .agg (mpL σ l)
def mpT (σ : Atom → Atom) : List AV0 → List AV0
  | [] => []
  | a :: l => a.mp σ :: mpT σ l
def AV.mp (σ : Atom → Atom) : AV → AV
  | .it x => .it (x.mp σ)
  | .tup l => .tup (mpT σ l)
def Ent.mp (σ : Atom → Atom) : Ent → Ent
  | .abs A => .abs A
  | .box t l => .box t (mpL σ l)
  | .row t s n l => .row t s n l
def Slot.mp (σ : Atom → Atom) : Slot → Slot
  | .ent e => .ent (e.mp σ)
  | .free => .free
  | .gone => .gone
/-- A state, one of whose blocks is given away. -/
def St.mp (st : St) (b : Nat) (σ : Atom → Atom) : St :=
  ⟨fun t => match st.tm t with | some v => some (v.mp σ) | none => none, upd (fun c => (st.hp c).mp σ) b .gone⟩
section
variable {σ : Atom → Atom}
theorem mpL_ids (hσ : ∀ a, ∀ i ∈ (σ a).ids, i ∈ a.ids) : ∀ (l : List Atom), ∀ i ∈ (mpL σ l).flatMap Atom.ids, i ∈ l.flatMap Atom.ids
  | [], i, hi => hi
  | a :: l, i, hi => by
    simp only [mpL, List.flatMap_cons, List.mem_append] at hi ⊢
    exact hi.imp (hσ a i) (mpL_ids hσ l i)
theorem AV0.mp_ids (hσ : ∀ a, ∀ i ∈ (σ a).ids, i ∈ a.ids) (x : AV0) : ∀ i ∈ (x.mp σ).ids, i ∈ x.ids := by
  cases x with
  | one a => exact hσ a
  | agg l => exact mpL_ids hσ l
theorem mpT_ids (hσ : ∀ a, ∀ i ∈ (σ a).ids, i ∈ a.ids) : ∀ (l : List AV0), ∀ i ∈ (mpT σ l).flatMap AV0.ids, i ∈ l.flatMap AV0.ids
  | [], i, hi => hi
  | a :: l, i, hi => by
    simp only [mpT, List.flatMap_cons, List.mem_append] at hi ⊢
    exact hi.imp (a.mp_ids hσ i) (mpT_ids hσ l i)
theorem AV.mp_ids (hσ : ∀ a, ∀ i ∈ (σ a).ids, i ∈ a.ids) (x : AV) : ∀ i ∈ (x.mp σ).ids, i ∈ x.ids := by
  cases x with
  | it a => exact a.mp_ids hσ
  | tup l => exact mpT_ids hσ l
theorem Ent.mp_ids (hσ : ∀ a, ∀ i ∈ (σ a).ids, i ∈ a.ids) (x : Ent) : ∀ i ∈ (x.mp σ).ids, i ∈ x.ids := by
  cases x with
  | abs A => intro i hi; cases hi
  | box t l => exact mpL_ids hσ l
  | row t s m l => exact fun i h => h
variable {E : Env} {S S' : Nat → Prop} {w : World}
theorem mpL_has (f : ∀ a v, Atom.has E S w a v → (σ a).has E S' w v) : ∀ {l : List Atom} {vs : List Value}, All2 (Atom.has E S w) l vs → All2 (Atom.has E S' w) (mpL σ l) vs
  | [], [], _ => trivial
  | a :: _, v :: _, h => ⟨f a v h.1, mpL_has f h.2⟩
  | [], _ :: _, h => h.elim
  | _ :: _, [], h => h.elim
theorem AV0.has.mp (f : ∀ a v, Atom.has E S w a v → (σ a).has E S' w v) {x : AV0} {v : Value} (h : x.has E S w v) : (x.mp σ).has E S' w v := by
  cases x with
  | one a => exact f a v h
  | agg l => obtain ⟨vs, h1, h2⟩ := h; exact ⟨vs, h1, mpL_has f h2⟩
theorem mpT_has (f : ∀ a v, Atom.has E S w a v → (σ a).has E S' w v) : ∀ {l : List AV0} {vs : List Value}, All2 (AV0.has E S w) l vs → All2 (AV0.has E S' w) (mpT σ l) vs
  | [], [], _ => trivial
  | _ :: _, _ :: _, h => ⟨AV0.has.mp f h.1, mpT_has f h.2⟩
  | [], _ :: _, h => h.elim
  | _ :: _, [], h => h.elim
theorem AV.has.mp (f : ∀ a v, Atom.has E S w a v → (σ a).has E S' w v) {x : AV} {v : Value} (h : x.has E S w v) : (x.mp σ).has E S' w v := by
  cases x with
  | it a => exact AV0.has.mp f h
  | tup l => obtain ⟨vs, h1, h2⟩ := h; exact ⟨vs, h1, mpT_has f h2⟩
theorem Ent.has.mp (f : ∀ a v, Atom.has E S w a v → (σ a).has E S' w v) (hsub : ∀ k, S' k → S k) {e : Ent} {c : Nat} (h : e.has E S w c) : (e.mp σ).has E S' w c := by
  cases e with
  | abs A => exact A.step h (Off.refl S w) (fun k hk => .inl (hsub k hk)) (fun _ _ => rfl)
  | box t l => obtain ⟨cs, h1, h2⟩ := h; exact ⟨cs, h1, mpL_has f h2⟩
  | row t s m l => obtain ⟨vs, h1, h2⟩ := h; exact ⟨vs, h1, h2.mono fun a v _ ha => ha.step (Off.refl S w) (fun k hk => .inl (hsub k hk))⟩
end
theorem St.le_mp {C : Ctx} {st : St} {b : Nat} {e : Ent} {σ : Atom → Atom} (hσi : ∀ a, ∀ i ∈ (σ a).ids, i ∈ a.ids) (hB : ∀ k, ¬ C.B k) (hb : st.hp b = .ent e)
    (hσ : ∀ E S w, e.has E S w b → (∀ k, e.at E b k → S k) → ∀ a v, Atom.has E S w a v → (σ a).has E (fun k => S k ∧ ¬ e.at E b k) w v) : St.le C st (st.mp b σ) := by
  intro a w ⟨E, S, hs⟩
  have f := hσ E S w (hs.hp b e hb) (fun k hk => (hs.blk b e k hb hk).1)
  have hkey : ∀ c e', (st.mp b σ).hp c = .ent e' → c ≠ b ∧ ∃ e0, st.hp c = .ent e0 ∧ e' = e0.mp σ := by
    intro c e' hc
    have hc' : upd (fun c => (st.hp c).mp σ) b .gone c = .ent e' := hc
    by_cases hcb : c = b
    · subst hcb; rw [upd_same] at hc'; cases hc'
    · rw [upd_ne _ _ hcb] at hc'
      refine ⟨hcb, ?_⟩
      cases h1 : st.hp c with
      | ent e0 => rw [h1] at hc'; simp only [Slot.mp] at hc'; cases hc'; exact ⟨e0, rfl, rfl⟩
      | free => rw [h1] at hc'; cases hc'
      | gone => rw [h1] at hc'; cases hc'
  have hused : ∀ c, (st.hp c).used = true → ((st.mp b σ).hp c).used = true := by
    intro c hc
    show (upd (fun c => (st.hp c).mp σ) b .gone c).used = true
    by_cases hcb : c = b
    · subst hcb; rw [upd_same]; rfl
    · rw [upd_ne _ _ hcb]
      cases h1 : st.hp c with
      | ent e0 => rfl
      | free => rw [h1] at hc; cases hc
      | gone => rfl
  have htm : ∀ t v, (st.mp b σ).tm t = some v → ∃ v0, st.tm t = some v0 ∧ v = v0.mp σ := by
    intro t v ht
    have ht' : (match st.tm t with | some v => some (v.mp σ) | none => none) = some v := ht
    cases h1 : st.tm t with
    | none => rw [h1] at ht'; cases ht'
    | some v0 => rw [h1] at ht'; cases ht'; exact ⟨v0, rfl, rfl⟩
  have hblk : ∀ (e0 : Ent) c, (e0.mp σ).at E c = e0.at E c := fun e0 c => by cases e0 <;> rfl
  refine ⟨E, fun k => S k ∧ ¬ e.at E b k, { dfr := hs.dfr, nt := hs.nt, cT := fun k hk => ⟨hs.cT k hk, fun h => ?_⟩, cT0 := hs.cT0, cS := fun k hk => hs.cS k hk.1, lt := fun k hk => hs.lt k hk.1, tm := fun t v ht => ?_, tid := fun t v ht i hi => ?_, hp := fun c e' hc => ?_, hid := fun c e' hc i hi => ?_, blk := fun c e' k hc hk => ?_, sep := fun c c' e1 e2 k hne hc hc' hk => ?_, off := hs.off, env := fun c hc => ?_, gl := hs.gl.sub fun k hk => hk.1 }⟩
  · have h1 := (hs.blk b e k hb h).2.resolve_left (hB k)
    have h2 := hs.cT0 k hk
    omega
  · obtain ⟨v0, h1, rfl⟩ := htm t v ht
    exact AV.has.mp f (hs.tm t v0 h1)
  · obtain ⟨v0, h1, rfl⟩ := htm t v ht
    exact hused i (hs.tid t v0 h1 i (v0.mp_ids hσi i hi))
  · obtain ⟨_, e0, h1, rfl⟩ := hkey c e' hc
    exact Ent.has.mp f (fun k hk => hk.1) (hs.hp c e0 h1)
  · obtain ⟨_, e0, h1, rfl⟩ := hkey c e' hc
    exact hused i (hs.hid c e0 h1 i (e0.mp_ids hσi i hi))
  · obtain ⟨hcb, e0, h1, rfl⟩ := hkey c e' hc
    rw [hblk] at hk
    have h2 := hs.blk c e0 k h1 hk
    exact ⟨⟨h2.1, fun h => hs.sep c b e0 e k hcb h1 hb hk h⟩, h2.2⟩
  · obtain ⟨_, e3, h1, rfl⟩ := hkey c e1 hc
    obtain ⟨_, e4, h2, rfl⟩ := hkey c' e2 hc'
    rw [hblk] at hk ⊢
    exact hs.sep c c' e3 e4 k hne h1 h2 hk
  · obtain ⟨g1, g2, g3⟩ := hs.env c hc
    exact ⟨g1, g2, hused c g3⟩
/-- A box that is written no more. -/
def bfz (b : Nat) (m : List CA) : Atom → Atom
  | .c a => .c a
  | .ptr k off => match Nat.beq k b with | true => .c (.sat (ptrR (m.drop off))) | false => .ptr k off
  | .own k => .own k
  | .rptr k off => .rptr k off
  | .clo f cap => .clo f cap
  | .bnd f k => .bnd f k
  | .rel k R => .rel k R
theorem bfz_ptr {b off : Nat} {m : List CA} : bfz b m (.ptr b off) = .c (.sat (ptrR (m.drop off))) := by
  simp only [bfz, Nat.beq_refl]
theorem bfz_ptr_ne {b k off : Nat} {m : List CA} (h : k ≠ b) : bfz b m (.ptr k off) = .ptr k off := by
  simp only [bfz, beq_ne h]
theorem bfz_ids (b : Nat) (m : List CA) (a : Atom) : ∀ i ∈ (bfz b m a).ids, i ∈ a.ids := by
  cases a with
  | ptr k off =>
    intro i hi
    by_cases hk : k = b
    · subst hk; rw [bfz_ptr] at hi; cases hi
    · rw [bfz_ptr_ne hk] at hi; exact hi
  | _ => exact fun i hi => hi
theorem St.le_bfz {C : Ctx} {st : St} {b : Nat} {t : TypeId} {cells : List Atom} {m : List CA} (hB : ∀ k, ¬ C.B k) (hb : st.hp b = .ent (.box t cells)) (hc : closedL cells = some m) : St.le C st (st.mp b (bfz b m)) :=
  St.le_mp (bfz_ids b m) hB hb fun E S w hh hS a v ha => by
    have hsub : ∀ k, (fun k => S k ∧ ¬ (Ent.box t cells).at E b k) k → S k := fun k hk => hk.1
    have keep : ∀ a : Atom, a.has E S w v → a.has E (fun k => S k ∧ ¬ (Ent.box t cells).at E b k) w v := fun a ha => ha.step (fun _ _ => ⟨rfl, rfl⟩) (Off.refl S w) (fun k hk => .inl (hsub k hk))
    cases a with
    | ptr k off =>
      by_cases hk : k = b
      · subst hk
        rw [bfz_ptr]
        obtain ⟨cs, h1, h2⟩ := hh
        rw [closedL_spec hc] at h2
        have h3 := all2_closed h2
        refine ptrR_iff.2 ⟨E.blk k, off, ha, fun i c hic => ?_⟩
        rw [List.getElem?_drop] at hic
        obtain ⟨u, hu, huc⟩ := h3.get hic
        have hcell := cells_of_block h1 0 (off + i) u (by simpa using hu)
        exact ⟨u, fun h => h.2 rfl, by simpa [Addr.add_lit] using hcell, huc.step (Off.refl S w) (fun k hk => .inl (hsub k hk))⟩
      · rw [bfz_ptr_ne hk]; exact keep _ ha
    | c a => exact keep _ ha
    | own k => exact keep _ ha
    | rptr k off => exact keep _ ha
    | clo f cap => exact keep _ ha
    | bnd f k => exact keep _ ha
    | rel k R => exact keep _ ha
/-- The box b is written no more. -/
theorem WP.freezeB {P : Program} {C : Ctx} {st : St} {Q : Exit → St → Prop} {c : Code} {t : TypeId} (b : Nat) {cells : List Atom} {m : List CA} (hB : ∀ k, ¬ C.B k) (hb : st.hp b = .ent (.box t cells)) (hc : closedL cells = some m) (h : WP P C c (st.mp b (bfz b m)) Q) : WP P C c st Q :=
  WP.weaken (St.le_bfz hB hb hc) h
/-! Functions as values. -/
def All2R (S : Nat → Prop) (w : World) : List CA → List Value → Prop := All2 (CA.has S w)
/-- A function, with what is bound to it. -/
def cloR (f : FuncId) (bs cs : List CA) : Rep where
  has S w v := ∃ us vs : List Value, v = .func (.func f) us.toArray vs.toArray ∧ All2 (CA.has S w) bs us ∧ All2 (CA.has S w) cs vs
  one h := by obtain ⟨us, vs, rfl, _⟩ := h; rfl
  step h ho hs := by
    obtain ⟨us, vs, h1, h2, h3⟩ := h
    exact ⟨us, vs, h1, h2.mono fun a b _ h => h.step ho hs, h3.mono fun a b _ h => h.step ho hs⟩
def caAV (c : CA) : AV := .it (.one (.c c))
theorem caAV_has {E : Env} {S : Nat → Prop} {w : World} : ∀ {l : List CA} {vs : List Value}, All2 (CA.has S w) l vs → All2 (AV.has E S w) (l.map caAV) vs
  | [], [], _ => trivial
  | _ :: _, _ :: _, h => ⟨h.1, caAV_has h.2⟩
  | [], _ :: _, h => h.elim
  | _ :: _, [], h => h.elim
/-- What a function's value answers. -/
def FnV (P : Program) (x : CA) (args : List AV) (r : AV) : Prop :=
  ∀ S w v, x.has S w v → ∃ (f : FuncId) (us vs : List Value) (bs cs : List AV), v = .func (.func f) (List.toArray us) (List.toArray vs) ∧ (∀ E, All2 (AV.has E S w) bs us) ∧ (∀ E, All2 (AV.has E S w) cs vs) ∧ PureOK P f (bs ++ args ++ cs) r
theorem FnV.clo {P : Program} {f : FuncId} {bs cs : List CA} {args : List AV} {r : AV} (h : PureOK P f (bs.map caAV ++ args ++ cs.map caAV) r) : FnV P (.sat (cloR f bs cs)) args r := by
  rintro S w v ⟨us, vs, h1, h2, h3⟩
  exact ⟨f, us, vs, bs.map caAV, cs.map caAV, h1, fun E => caAV_has h2, fun E => caAV_has h3, h⟩
/-- A method, with the value that is bound to it. -/
def cloA (f : FuncId) (m : List CA) : Rep where
  has S w v := ∃ us : List Value, v = .func (.func f) #[.agg us.toArray] #[] ∧ All2 (CA.has S w) m us
  one h := by obtain ⟨us, rfl, _⟩ := h; rfl
  step h ho hs := by
    obtain ⟨us, h1, h2⟩ := h
    exact ⟨us, h1, h2.mono fun a b _ h => h.step ho hs⟩
theorem ca_atoms {E : Env} {S : Nat → Prop} {w : World} : ∀ {m : List CA} {us : List Value}, All2 (CA.has S w) m us → All2 (Atom.has E S w) (m.map Atom.c) us
  | [], [], _ => trivial
  | _ :: _, _ :: _, h => ⟨h.1, ca_atoms h.2⟩
  | [], _ :: _, h => h.elim
  | _ :: _, [], h => h.elim
theorem FnV.bound {P : Program} {f : FuncId} {m : List CA} {args : List AV} {r : AV} (h : PureOK P f (.agg (m.map Atom.c) :: args) r) : FnV P (.sat (cloA f m)) args r := by
  rintro S w v ⟨us, h1, h2⟩
  exact ⟨f, [.agg us.toArray], [], [.agg (m.map Atom.c)], [], h1, fun E => ⟨⟨us, rfl, ca_atoms h2⟩, trivial⟩, fun E => trivial, by simpa using h⟩
theorem has_caAV {E : Env} {S : Nat → Prop} {w : World} : ∀ {l : List CA} {vs : List Value}, All2 (AV.has E S w) (l.map caAV) vs → All2 (CA.has S w) l vs
  | [], [], _ => trivial
  | _ :: _, _ :: _, h => ⟨h.1, has_caAV h.2⟩
  | [], _ :: _, h => h.elim
  | _ :: _, [], h => h.elim
section
variable {P : Program} {C : Ctx} {st : St}
variable {ops rest : List Oper} {acc : List (List Nat × List Nat)} {K : List (List Nat × List Nat) → St → Prop} {dst : Option Tmp} {d : Tmp} {op : Op} {ty t t' : TypeId} {x y z : Operand}
def casOf : List AV → Option (List CA)
  | [] => some []
  | .it (.one (.c c)) :: l => match casOf l with | some m => some (c :: m) | none => none
  | _ :: _ => none
theorem casOf_spec : ∀ {l : List AV} {m : List CA}, casOf l = some m → l = m.map caAV
  | [], m, h => by simp [casOf] at h; subst h; rfl
  | v :: l, m, h => by
    unfold casOf at h
    split at h
    · rename_i heq; cases heq
    · rename_i c l' heq
      cases heq
      split at h
      · rename_i m' hm
        cases h
        rw [List.map_cons, casOf_spec hm]; rfl
      · cases h
    · cases h
theorem casOf_ids : ∀ {m : List CA}, ∀ v ∈ m.map caAV, v.ids = []
  | [], v, h => by cases h
  | c :: m, v, h => by
    rw [List.map_cons] at h
    rcases List.mem_cons.1 h with rfl | h
    · rfl
    · exact casOf_ids v h
/-- A function that sees boxes which are written no more. -/
theorem G.mkfn {f : FuncId} {bnd caps : Array Operand} {l l' : List AV} {bs cs : List CA} (next : Reg P C ops rest (st.app dst ⟨.r (cloR f bs cs), []⟩) (([], []) :: acc) K) (hd : dstOK dst C.nt = true := by rfl) (ha : evs st bnd.toList = some l := by rfl) (hc : casOf l = some bs := by rfl) (ha' : evs st caps.toList = some l' := by rfl) (hc' : casOf l' = some cs := by rfl) : Go1 P C ops dst (.makeFunc (.func f) bnd caps) ty rest st acc K :=
  Go1.pureV [] [] (by simp) hd (by simp) (fun o ho _ st' E S a w hev hs _ => by
    have hop : o.op.operands = bnd ++ caps := by rw [ho]; simp [Op.operands]
    have h1 : evs st' bnd.toList = some l := by rw [evs_congr (fun x hx => hev x (by rw [hop]; simp at hx ⊢; exact .inl hx))]; exact ha
    have h2 : evs st' caps.toList = some l' := by rw [evs_congr (fun x hx => hev x (by rw [hop]; simp at hx ⊢; exact .inr hx))]; exact ha'
    obtain ⟨g1, _⟩ := evs_has hs h1
    obtain ⟨g2, _⟩ := evs_has hs h2
    rw [casOf_spec hc] at g1
    rw [casOf_spec hc'] at g2
    refine ⟨fun i hi => (by cases hi), _, by unfold execOp; rw [ho]; simp [Instr.makeFunc]; rfl, bnd.toList.map a.eval, caps.toList.map a.eval, ?_, has_caAV g1, has_caAV g2⟩
    congr 1 <;> (apply Array.ext'; simp)) next
/-- A method's value: the value that is bound is written down in it. -/
theorem G.mkfnA {f : FuncId} {x : Operand} {l : List Atom} {m : List CA} (next : Reg P C ops rest (st.app dst ⟨.r (cloA f m), []⟩) (([], []) :: acc) K) (hd : dstOK dst C.nt = true := by rfl) (ha : st.ev x = some (.agg l) := by rfl) (hc : closedL l = some m := by rfl) : Go1 P C ops dst (.makeFunc (.func f) #[x] #[]) ty rest st acc K :=
  Go1.pureV [] [] (by simp) hd (by simp) (fun o ho _ st' E S a w hev hs _ => by
    obtain ⟨⟨us, hv, hall⟩, _⟩ := hs.ev ((hev x (by simp [ho, Op.operands])).trans ha)
    rw [closedL_spec hc] at hall
    refine ⟨fun i hi => (by cases hi), .func (.func f) #[.agg us.toArray] #[], ?_, us, rfl, all2_closed hall⟩
    unfold execOp; rw [ho]; simp [Instr.makeFunc, hv]) next
theorem run_enterF {o : Oper} {f : FuncId} {as : Array Operand} {tys : Array TypeId} {us vs : Array Value} {fx : Operand} {ρ : Operand → Value} (ho : o.op = .call ⟨.value fx, as, tys⟩) (hf : ρ fx = .func (.func f) us vs)
    (he : ∃ fn, P.funcs[f]? = some fn ∧ (fn.name == "runtime.NumGoroutine") = false ∧ fn.body.isNone = false) (w : World) : (execOp ρ o).run P w = .ok (.enter f (us ++ as.map ρ ++ vs)) w := by
  obtain ⟨fn, h1, h2, h3⟩ := he
  unfold execOp
  rw [ho]
  have h2' : fn.name ≠ "runtime.NumGoroutine" := by simpa using h2
  have h3' : fn.body ≠ none := by intro e; rw [e] at h3; cases h3
  simp [resolve, hf, Deferred.ofValue, invoke, callFunc, h1, h2', h3']
/-- A function's value is called. -/
theorem G.callF {fx : Operand} {c : CA} {as : Array Operand} {tys : Array TypeId} {args : List AV} {r : AV} (next : Reg P C ops rest (st.app dst ⟨r, []⟩) (([], []) :: acc) K) (hd : dstOK dst C.nt = true := by rfl) (hf : st.ev fx = some (.it (.one (.c c))) := by rfl) (ha : evs st as.toList = some args := by rfl)
    (hc : FnV P c args r := by assumption) (hr : r.ids = [] := by rfl) : Go1 P C ops dst (.call ⟨.value fx, as, tys⟩) ty rest st acc K := by
  refine ⟨[], ⟨r, []⟩, fun o h2 h3 h4 => OpOK.eff [] [] (fun b hb => ?_) (h2 ▸ dstOK_spec hd) (fun b e hb => by cases hb) (fun b e hb => by cases hb) (fun b s hb => by cases hb) (fun b s hb => by cases hb) (fun st' E S a w hev hhp hs _ _ => ?_), next⟩
  · rcases hb with ⟨e, hb⟩ | ⟨e, hb⟩ | ⟨s, hb⟩ <;> cases hb
  · have hop : o.op.operands = #[fx] ++ as := by rw [h3]; rfl
    have ha' : evs st' as.toList = some args := by rw [evs_congr (fun x hx => hev x (by rw [hop]; simp at hx; simp [hx]))]; exact ha
    obtain ⟨hall, hids⟩ := evs_has hs ha'
    have hcl := (hs.ev ((hev fx (by rw [hop]; simp)).trans hf)).1
    obtain ⟨f, us, vs, bs, cs, hv, g1, g2, hent, hcall⟩ := hc S w _ hcl
    refine ⟨⟨fun i hi => (by rw [hr] at hi; cases hi), fun b e hb => by cases hb⟩, fun K Q hK => ?_⟩
    have hcalls := hcall E S w (us ++ as.toList.map a.eval ++ vs) hs.lt hs.gl (((g1 E).append hall).append (g2 E)) (fun b e hb => by cases hb) (fun b e k hb => by cases hb) (fun b b' e e' k _ hb => by cases hb)
    unfold Oper.wp
    rw [run_enterF h3 hv hent w]
    have harr : us.toArray ++ as.map a.eval ++ vs.toArray = (us ++ as.toList.map a.eval ++ vs).toArray := by
      apply Array.ext'; simp
    show Calls P f _ w _
    rw [harr]
    exact hcalls.mono fun e w' ⟨v, E', S', he, hE⟩ => by subst he; exact hK v w' E' S' hE
end
/-- A function without anything bound to it. -/
theorem FnV.const {P : Program} {f : FuncId} {args : List AV} {r : AV} (h : PureOK P f args r) : FnV P (.sat (cloR f [] [])) args r := FnV.clo (by simpa using h)
end SX
