import Derived.Test.YtaocklkbijkhpaaSxu
/- The run at one word, over whole numbers. No program in sight. -/
set_option linter.unusedVariables false
set_option linter.unusedSimpArgs false
namespace SX
open Go Go.RowKit
section
variable {P : Program} {C : Ctx} {st : St}
variable {ops rest : List Oper} {acc : List (List Nat × List Nat)} {K : List (List Nat × List Nat) → St → Prop} {dst : Option Tmp} {d : Tmp} {op : Op} {ty t t' : TypeId} {x y z : Operand}
theorem G.loadMO {e : TypeId} {b n size off : Nat} {c : CA} {cells : List CA} [ht : TOne P t] (next : Reg P C ops rest (st.app dst ⟨.it (.one (.c c)), []⟩) (([b], []) :: acc) K) (hd : dstOK dst C.nt = true := by rfl) (hx : st.ev x = some (.it (.one (.rptr b off))) := by rfl) (hb : st.hp b = .ent (.row e size n cells) := by rfl) (hc : cells[off]? = some c := by first | exact load_map (by assumption) | exact load_mapO (by assumption)) : Go1 P C ops dst (.load t x) ty rest st acc K :=
  Go1.loadO1 hd hx hb hc next
theorem G.loadM1 {c : CA} {cells : List CA} [ht : TOne P t] (next : Reg P C ops rest (st.app dst ⟨.it (.one (.c c)), []⟩) (([], []) :: acc) K) (hd : dstOK dst C.nt = true := by rfl) (hx : st.ev x = some (.r (ptrR cells)) := by rfl) (hl : cells[0]? = some c := by first | exact load_map (by assumption) | exact load_mapO (by assumption)) : Go1 P C ops dst (.load t x) ty rest st acc K :=
  Go1.loadR1 hd hx hl next
theorem G.indexAddrZ {e : TypeId} {size n i : Nat} {k : IntKind} {cells : List CA} {r : Rep} [ht : TSlice P t e size] (next : Reg P C ops rest (st.app dst ⟨.r (ptrR ((cells.drop (i * size)).take size)), []⟩) (([], []) :: acc) K) (hd : dstOK dst C.nt = true := by rfl) (hx : st.ev x = some (.r r) := by rfl) (hr : AsSlice r size n cells := by infer_instance) (hy : st.ev y = some (.v (.int k (i : Int))) := by rfl) (hi : i < n := by omega) : Go1 P C ops dst (.indexAddr t x y) ty rest st acc K :=
  Go1.indexAddrR hd hx hy hi next
theorem G.sliceHiZ {i : Int} {e : TypeId} {size n : Nat} {k : IntKind} {cells : List CA} {r : Rep} [ht : TSlice P t e size] (next : Reg P C ops rest (st.app dst ⟨.r (sliceR size i.toNat (cells.take (i.toNat * size))), []⟩) (([], []) :: acc) K) (hd : dstOK dst C.nt = true := by rfl) (hx : st.ev x = some (.r r) := by rfl) (hr : AsSlice r size n cells := by infer_instance) (hy : st.ev y = some (.v (.int k i)) := by rfl) (h0 : 0 ≤ i := by omega) (h1 : i ≤ (n : Int) := by omega) : Go1 P C ops dst (.slice t x none (some y) none) ty rest st acc K :=
  Go1.sliceHiR hd hx hy h0 h1 next
theorem G.sliceLoZ {i : Int} {e : TypeId} {size n : Nat} {k : IntKind} {cells : List CA} {r : Rep} [ht : TSlice P t e size] (next : Reg P C ops rest (st.app dst ⟨.r (sliceR size (n - i.toNat) (cells.drop (i.toNat * size))), []⟩) (([], []) :: acc) K) (hd : dstOK dst C.nt = true := by rfl) (hx : st.ev x = some (.r r) := by rfl) (hr : AsSlice r size n cells := by infer_instance) (hy : st.ev y = some (.v (.int k i)) := by rfl) (h0 : 0 ≤ i := by omega) (h1 : i ≤ (n : Int) := by omega) : Go1 P C ops dst (.slice t x (some y) none none) ty rest st acc K :=
  Go1.sliceLoR hd hx hy h0 h1 next
theorem G.sliceHiP {i : Int} {e : TypeId} {b n size : Nat} {k : IntKind} {cells : List CA} [ht : TSlice P t e size] (next : Reg P C ops rest (st.app (some d) ⟨.own d, [(b, .gone), (d, .ent (.row e size i.toNat (cells.take (i.toNat * size))))]⟩) (([b, d], [b, d]) :: acc) K) (hd : dstOK (some d) C.nt = true := by rfl) (hx : st.ev x = some (.own b) := by rfl) (hb : st.hp b = .ent (.row e size n cells) := by rfl) (hf : st.hp d = .free := by rfl) (hy : st.ev y = some (.v (.int k i)) := by rfl) (h0 : 0 ≤ i := by omega) (h1 : i ≤ (n : Int) := by omega) : Go1 P C ops (some d) (.slice t x none (some y) none) ty rest st acc K :=
  Go1.sliceHiO hd hx hb hf hy h0 h1 next
end
/-- The run, as far as it goes. -/
structure HeldZ (q : Prop) : Prop where
  out : q
theorem goZ {p q : Prop} (h : q) (k : HeldZ q → p := by
    intro h
    (first
      | (refine SX.Go1.is ?_; first
          | (refine SX.Go1.isLoad ?_; first | refine SX.G.load2 ?_ | refine SX.G.load1 ?_ | refine SX.G.loadR1 ?_ | refine SX.G.loadR2 ?_ | refine SX.G.load4 ?_ | refine SX.G.loadR4 ?_ | refine SX.G.load3 ?_ | refine SX.G.loadR3 ?_ | refine SX.G.loadM1 ?_ | refine SX.G.loadO1 ?_ | refine SX.G.loadMO ?_)
          | (refine SX.Go1.isBin ?_; first | refine SX.G.lss ?_ | refine SX.G.eql ?_ | refine SX.G.neq ?_ | refine SX.G.gtr ?_ | refine SX.G.geq ?_ | refine SX.G.leq ?_ | refine SX.G.add ?_ | refine SX.G.sub ?_ | refine SX.G.mul ?_ | refine SX.G.quo ?_ | refine SX.G.rem ?_ | refine SX.G.eqlB ?_ | refine SX.G.neqB ?_ | refine SX.G.shr ?_ | refine SX.G.shl ?_ | refine SX.G.and ?_)
          | (refine SX.Go1.isUn ?_; first | refine SX.G.not ?_ | refine SX.G.neg ?_)
          | (refine SX.Go1.isField ?_; first | refine SX.G.fieldAddr ?_ | refine SX.G.fieldAddrR ?_)
          | (refine SX.Go1.isBuild ?_; first | refine SX.G.build2 ?_ | refine SX.G.build3 ?_ | refine SX.G.build4 ?_ | refine SX.G.build ?_)
          | (refine SX.Go1.isStore ?_; first | refine SX.G.store ?_)
          | (refine SX.Go1.isIx ?_; first | refine SX.G.indexAddrZ ?_ | refine SX.G.indexAddrO ?_)
          | (refine SX.Go1.isBuildS ?_; first | refine SX.G.lit1 ?_)
          | (refine SX.Go1.isCall ?_; first | refine SX.G.lenR ?_ | refine SX.G.lenN ?_ | refine SX.G.lenS ?_ | refine SX.G.lenO ?_ | refine SX.G.appendW ?_ | refine SX.G.appendNilW ?_)
          | refine SX.G.move ?_ | refine SX.G.assign ?_ | refine SX.G.extract ?_ | refine SX.G.box ?_ | refine SX.G.alloc ?_ | refine SX.G.pick ?_ | refine SX.G.pickHT ?_ | refine SX.G.pickHF ?_ | refine SX.G.pickB ?_ | refine SX.G.pickV ?_ | refine SX.G.conv ?_ | refine SX.G.sliceHiZ ?_ | refine SX.G.sliceLoZ ?_ | refine SX.G.sliceHiP ?_ | refine SX.G.sliceHiS ?_ | refine SX.G.sliceLoS ?_ | refine SX.G.sliceLHS ?_ | refine SX.G.indexS ?_)
      | (refine SX.Reg.is ?_; first | refine SX.Reg.go ?_ | refine SX.Reg.goT rfl rfl rfl ?_ | refine SX.Reg.goF rfl rfl rfl ?_ | refine SX.Reg.goU rfl rfl ?_ | refine SX.Reg.goT rfl rfl (by first | (with_reducible assumption) | assumption) ?_ | refine SX.Reg.goF rfl rfl (by first | (with_reducible assumption) | assumption) ?_ | refine SX.Reg.nil ⟨by kernel_rfl, ?_⟩ | refine SX.Reg.nil ?_)
      | (refine SX.WP.is ?_; first | refine SX.WP.seq ?_ | refine SX.WP.regionL ?_ | refine SX.WP.regionDL (by kernel_rfl) ?_ | refine SX.WP.block ?_ | refine SX.WP.skip ?_ | refine SX.WP.exit ?_ | refine SX.WP.ret ?_ | refine SX.WP.label ?_ | refine SX.WP.condT rfl ?_ | refine SX.WP.condF rfl ?_ | refine SX.WP.condHT rfl (by first | (with_reducible assumption) | assumption) ?_ | refine SX.WP.condHF rfl (by first | (with_reducible assumption) | assumption) ?_)
      | refine SX.thenN ?_ | refine SX.thenE ?_ | refine SX.thenR ?_ | refine SX.inBlkN ?_ | refine SX.inBlkR ?_ | refine SX.inBlkE ?_ | refine SX.inBlkO rfl ?_ | refine SX.retR ?_ | refine SX.retN ?_)
    repeat (first
      | (refine SX.Go1.is ?_; first
          | (refine SX.Go1.isLoad ?_; first | refine SX.G.load2 ?_ | refine SX.G.load1 ?_ | refine SX.G.loadR1 ?_ | refine SX.G.loadR2 ?_ | refine SX.G.load4 ?_ | refine SX.G.loadR4 ?_ | refine SX.G.load3 ?_ | refine SX.G.loadR3 ?_ | refine SX.G.loadM1 ?_ | refine SX.G.loadO1 ?_ | refine SX.G.loadMO ?_)
          | (refine SX.Go1.isBin ?_; first | refine SX.G.lss ?_ | refine SX.G.eql ?_ | refine SX.G.neq ?_ | refine SX.G.gtr ?_ | refine SX.G.geq ?_ | refine SX.G.leq ?_ | refine SX.G.add ?_ | refine SX.G.sub ?_ | refine SX.G.mul ?_ | refine SX.G.quo ?_ | refine SX.G.rem ?_ | refine SX.G.eqlB ?_ | refine SX.G.neqB ?_ | refine SX.G.shr ?_ | refine SX.G.shl ?_ | refine SX.G.and ?_)
          | (refine SX.Go1.isUn ?_; first | refine SX.G.not ?_ | refine SX.G.neg ?_)
          | (refine SX.Go1.isField ?_; first | refine SX.G.fieldAddr ?_ | refine SX.G.fieldAddrR ?_)
          | (refine SX.Go1.isBuild ?_; first | refine SX.G.build2 ?_ | refine SX.G.build3 ?_ | refine SX.G.build4 ?_ | refine SX.G.build ?_)
          | (refine SX.Go1.isStore ?_; first | refine SX.G.store ?_)
          | (refine SX.Go1.isIx ?_; first | refine SX.G.indexAddrZ ?_ | refine SX.G.indexAddrO ?_)
          | (refine SX.Go1.isBuildS ?_; first | refine SX.G.lit1 ?_)
          | (refine SX.Go1.isCall ?_; first | refine SX.G.lenR ?_ | refine SX.G.lenN ?_ | refine SX.G.lenS ?_ | refine SX.G.lenO ?_ | refine SX.G.appendW ?_ | refine SX.G.appendNilW ?_)
          | refine SX.G.move ?_ | refine SX.G.assign ?_ | refine SX.G.extract ?_ | refine SX.G.box ?_ | refine SX.G.alloc ?_ | refine SX.G.pick ?_ | refine SX.G.pickHT ?_ | refine SX.G.pickHF ?_ | refine SX.G.pickB ?_ | refine SX.G.pickV ?_ | refine SX.G.conv ?_ | refine SX.G.sliceHiZ ?_ | refine SX.G.sliceLoZ ?_ | refine SX.G.sliceHiP ?_ | refine SX.G.sliceHiS ?_ | refine SX.G.sliceLoS ?_ | refine SX.G.sliceLHS ?_ | refine SX.G.indexS ?_)
      | (refine SX.Reg.is ?_; first | refine SX.Reg.go ?_ | refine SX.Reg.goT rfl rfl rfl ?_ | refine SX.Reg.goF rfl rfl rfl ?_ | refine SX.Reg.goU rfl rfl ?_ | refine SX.Reg.goT rfl rfl (by first | (with_reducible assumption) | assumption) ?_ | refine SX.Reg.goF rfl rfl (by first | (with_reducible assumption) | assumption) ?_ | refine SX.Reg.nil ⟨by kernel_rfl, ?_⟩ | refine SX.Reg.nil ?_)
      | (refine SX.WP.is ?_; first | refine SX.WP.seq ?_ | refine SX.WP.regionL ?_ | refine SX.WP.regionDL (by kernel_rfl) ?_ | refine SX.WP.block ?_ | refine SX.WP.skip ?_ | refine SX.WP.exit ?_ | refine SX.WP.ret ?_ | refine SX.WP.label ?_ | refine SX.WP.condT rfl ?_ | refine SX.WP.condF rfl ?_ | refine SX.WP.condHT rfl (by first | (with_reducible assumption) | assumption) ?_ | refine SX.WP.condHF rfl (by first | (with_reducible assumption) | assumption) ?_)
      | refine SX.thenN ?_ | refine SX.thenE ?_ | refine SX.thenR ?_ | refine SX.inBlkN ?_ | refine SX.inBlkR ?_ | refine SX.inBlkE ?_ | refine SX.inBlkO rfl ?_ | refine SX.retR ?_ | refine SX.retN ?_)
    exact h.out) : p := k ⟨h⟩
end SX
