import Derived.Test.YtmfadfkjnfdngaaGreatDoorM9
import Derived.Lib.SliceRun
import Derived.MapKept
import Derived.Scope
import Derived.Test.YtmfadfkjnfdngaaGreatDoorM4
set_option linter.unusedVariables false
set_option linter.unusedSimpArgs false
namespace SX
open Go Go.RowKit
class AsZero (zs : List Value) (cells : outParam (List CA)) : Prop where
  h : ∀ S w, All2 (CA.has S w) cells zs
theorem all2_rep {S : Nat → Prop} {w : World} {cells : List CA} {zs : List Value} (h : All2 (CA.has S w) cells zs) : ∀ n : Nat, All2 (CA.has S w) (List.replicate n cells).flatten (List.replicate n zs).flatten
  | 0 => trivial
  | n + 1 => by
    rw [List.replicate_succ, List.replicate_succ, List.flatten_cons, List.flatten_cons]
    exact h.append (all2_rep h n)
theorem made_rep (zs : List Value) (h0 : 0 < zs.length) (n : Nat) : (madeCells zs.toArray (n * zs.length)).toList = (List.replicate n zs).flatten := by
  induction n with
  | zero => simp [madeCells]
  | succ n ih =>
    rw [show List.replicate (n + 1) zs = List.replicate n zs ++ [zs] by rw [List.replicate_succ'], List.flatten_append, ← ih]
    apply List.ext_getElem?
    intro j
    have hsz : ∀ m, (madeCells zs.toArray m).toList.length = m := fun m => by rw [Array.length_toList, size_madeCells]
    by_cases h1 : j < n * zs.length
    · rw [List.getElem?_append_left (by rw [hsz]; exact h1)]
      have h2 : j < (n + 1) * zs.length := by rw [Nat.add_mul]; omega
      simp [madeCells, h1, h2]
    · rw [List.getElem?_append_right (by rw [hsz]; omega), hsz]
      by_cases h2 : j < (n + 1) * zs.length
      · have h3 : j - n * zs.length < zs.length := by rw [Nat.add_mul] at h2; omega
        have h4 : j % zs.length = j - n * zs.length := by
          have : j = (j - n * zs.length) + zs.length * n := by rw [Nat.mul_comm zs.length n]; omega
          rw [this, Nat.add_mul_mod_self_left, Nat.mod_eq_of_lt h3]; rw [Nat.mul_comm zs.length n]; omega
        simp [madeCells, h2, h4, h3]
      · have h3 : ¬ j - n * zs.length < zs.length := by rw [Nat.add_mul] at h2; omega
        simp [madeCells, h2]
        omega
section
variable {P : Program} {C : Ctx} {st : St}
variable {ops rest : List Oper} {acc : List (List Nat × List Nat)} {K : List (List Nat × List Nat) → St → Prop} {dst : Option Tmp} {d : Tmp} {op : Op} {ty t t' : TypeId} {x y z : Operand}
theorem Go1.makeG {e : TypeId} {n bytes size : Nat} {k k' : IntKind} {zs : List Value} {cells : List CA} [ht : TSlice P t e size] [he : TElem P e zs bytes] [hz : AsZero zs cells] (hd : dstOK (some d) C.nt = true) (hx : st.ev x = some (.v (.int k (n : Int)))) (hy : st.ev y = some (.v (.int k' (n : Int)))) (hf : st.hp d = .free)
    (hb : n * bytes ≤ 140737488355328) (hm : n ≤ 9223372036854775807) (hs : zs.length = size)
    (next : Reg P C ops rest (st.app (some d) ⟨.own d, [(d, .ent (.row e size n (List.replicate n cells).flatten))]⟩) (([d], [d]) :: acc) K) : Go1 P C ops (some d) (.makeSlice t x y) ty rest st acc K :=
  ⟨[d], ⟨.own d, [(d, .ent (.row e size n (List.replicate n cells).flatten))]⟩, fun o h2 h3 h4 => OpOK.newRow h2 hd hf [] (fun b e hb => by cases hb) (fun st' E S a w hev hs' _ => by
    have hxv : a.eval x = .int k (n : Int) := (hs'.ev ((hev x (by simp [h3, Op.operands])).trans hx)).1
    have hyv : a.eval y = .int k' (n : Int) := (hs'.ev ((hev y (by simp [h3, Op.operands])).trans hy)).1
    obtain ⟨i, z', hi, hz', hc, hsz, hby⟩ := elem_info he ht.s
    obtain ⟨w', hrun, hown, hgr⟩ := run_make_full (P := P) w 0 t e i z' size ht.h hi hz' hsz k k' n (by rw [hby, Nat.mul_comm]; omega) (by simp [maxLen]; omega) (Nat.zero_le _)
    refine ⟨.slice (some ⟨w.heap.size, 0, none⟩) n n, w', (List.replicate n zs).flatten, ?_, ?_, off_grown hgr (fun k hk => by cases hk), fun k hk => by simp [Value.ownBlock] at hk; omega, all2_rep (hz.h _ _) n⟩
    · unfold execOp; rw [h3]; simp [hxv, hyv, hrun]
    · have hl : (madeCells z'.cells (n * size)).toList = (List.replicate n zs).flatten := by rw [hc, ← hs]; exact made_rep zs (by rw [hs]; exact ht.p) n
      rw [← hl]; exact hown), next⟩
theorem G.makeG {e : TypeId} {n bytes size : Nat} {k k' : IntKind} {zi zj : Int} {zs : List Value} {cells : List CA} [ht : TSlice P t e size] [he : TElem P e zs bytes] [hz : AsZero zs cells] (next : Reg P C ops rest (st.app (some d) ⟨.own d, [(d, .ent (.row e size n (List.replicate n cells).flatten))]⟩) (([d], [d]) :: acc) K) (hd : dstOK (some d) C.nt = true := by rfl) (hx : st.ev x = some (.v (.int k zi)) := by rfl) (hx0 : zi = (n : Int) := by first | with_reducible rfl | exact SX.litN _ | rfl) (hy : st.ev y = some (.v (.int k' zj)) := by rfl) (hy0 : zj = (n : Int) := by first | with_reducible rfl | exact SX.litN _ | rfl) (hf : st.hp d = .free := by rfl)
    (hb : n * bytes ≤ 140737488355328 := by omega) (hm : n ≤ 9223372036854775807 := by omega) (hs : zs.length = size := by rfl) : Go1 P C ops (some d) (.makeSlice t x y) ty rest st acc K := by
  subst hx0; subst hy0
  exact Go1.makeG hd hx hy hf hb hm hs next
end
structure HeldJ (q : Prop) : Prop where
  out : q
end SX
set_option linter.unusedVariables false
set_option linter.unusedSimpArgs false
namespace SX
open Go Go.RowKit
def nnR (r : Rep) : Rep where
  has S w v := r.has S w v ∧ ∃ a n c, v = .slice (some a) n c
  one := fun h => r.one h.1
  step := fun h ho hs => ⟨r.step h.1 ho hs, h.2⟩
instance {r : Rep} {size n : Nat} {cells : List CA} [h : AsSlice r size n cells] : AsSlice (nnR r) size n cells := ⟨fun S w v hv => h.h _ _ _ hv.1⟩
section
variable {P : Program} {C : Ctx} {st : St}
variable {ops rest : List Oper} {acc : List (List Nat × List Nat)} {K : List (List Nat × List Nat) → St → Prop} {dst : Option Tmp} {d : Tmp} {op : Op} {ty t t' : TypeId} {x y z : Operand}
end
structure HeldK (q : Prop) : Prop where
  out : q
end SX
set_option linter.unusedVariables false
set_option linter.unusedSimpArgs false
namespace SX
open Go Go.RowKit
section
variable {P : Program} {C : Ctx} {st : St}
variable {ops rest : List Oper} {acc : List (List Nat × List Nat)} {K : List (List Nat × List Nat) → St → Prop} {dst : Option Tmp} {d : Tmp} {op : Op} {ty t t' : TypeId} {x y z : Operand}
end
structure HeldL (q : Prop) : Prop where
  out : q
end SX
set_option linter.unusedVariables false
set_option linter.unusedSimpArgs false
namespace SX
open Go Go.RowKit
def EntOK (S : Nat → Prop) (w : World) (p : List UInt8 × List CA) (e : MapEntry) : Prop := e.key = str p.1 ∧ ∃ us : List Value, e.val = .agg us.toArray ∧ All2 (CA.has S w) p.2 us
theorem EntOK.step {S S' : Nat → Prop} {w w' : World} {p : List UInt8 × List CA} {e : MapEntry} (h : EntOK S w p e) (ho : Off S w w') (hs : ∀ k, S' k → S k ∨ w.heap.size ≤ k) : EntOK S' w' p e := by
  obtain ⟨h1, us, h2, h3⟩ := h
  exact ⟨h1, us, h2, h3.mono fun a u _ ha => ha.step ho hs⟩
def mapE (l : List (List UInt8 × List CA)) : AEnt where
  has _ v X S w := ∃ r es clock, v = .map (some r) ∧ (∀ k, X k ↔ k = r) ∧ w.heap[r]? = some (.map es clock) ∧ All2 (EntOK S w) l es.toList
  step := fun {b v X S S' w w'} ⟨r, es, clock, h1, h2, h3, h4⟩ ho hs hX =>
    ⟨r, es, clock, h1, h2, by rw [hX r ((h2 r).2 rfl)]; exact h3, h4.mono fun a u _ ha => ha.step ho hs⟩
def lookL {β : Type} : List (List UInt8 × β) → List UInt8 → Option β
  | [], _ => none
  | (k, c) :: l, s => if s = k then some c else lookL l s
def putL {β : Type} : List (List UInt8 × β) → List UInt8 → β → List (List UInt8 × β)
  | [], s, c => [(s, c)]
  | (k, d) :: l, s, c => if s = k then (k, c) :: l else (k, d) :: putL l s c
class TMap (P : Program) (t : TypeId) (zs : outParam (List Value)) : Prop where
  h : ∃ k e, P.underlying t = some (.map k e) ∧ P.underlying k = some .string ∧ (P.info? e).map (·.zero) = some (some (.agg zs.toArray))
section
variable {P : Program} {t : TypeId} {zs : List Value} [ht : TMap P t zs] {w : World} {r : Nat} {es : Array MapEntry} {clock : Nat} {S : Nat → Prop} {l : List (List UInt8 × List CA)} {s : List UInt8}
include ht
end
section
variable {P : Program} {C : Ctx} {st : St}
variable {ops rest : List Oper} {acc : List (List Nat × List Nat)} {K : List (List Nat × List Nat) → St → Prop} {dst : Option Tmp} {d : Tmp} {ty t : TypeId} {x y z : Operand} {zs : List Value}
end
section
variable {P : Program} {C : Ctx} {st : St}
variable {ops rest : List Oper} {acc : List (List Nat × List Nat)} {K : List (List Nat × List Nat) → St → Prop} {dst : Option Tmp} {d : Tmp} {ty t : TypeId} {x y z : Operand} {zs : List Value}
end
section
variable {P : Program} {C : Ctx} {st : St}
variable {ops rest : List Oper} {acc : List (List Nat × List Nat)} {K : List (List Nat × List Nat) → St → Prop} {d : Tmp} {ty t : TypeId} {x : Operand}
end
section
variable {P : Program} {C : Ctx} {st : St}
variable {ops rest : List Oper} {acc : List (List Nat × List Nat)} {K : List (List Nat × List Nat) → St → Prop} {d : Tmp} {ty t : TypeId}
end
structure HeldM (q : Prop) : Prop where
  out : q
end SX
set_option linter.unusedVariables false
set_option linter.unusedSimpArgs false
namespace SX
open Go Go.RowKit
section
variable {P : Program} {C : Ctx} {st : St} {ops rest : List Oper} {acc : List (List Nat × List Nat)} {K : List (List Nat × List Nat) → St → Prop} {dst : Option Tmp} {ty t : TypeId} {x : Operand} {α : Type}
theorem G.loadHI2 {tO tI : TypeId} {b size i j : Nat} {enc : α → List CA} {js : List Nat} {c : List (List α)} {r : List α} {a : α} {c1 c2 : CA} [ht : TAgg P t 2] [he : EncLen enc 2] (next : Reg P C ops rest (st.app dst ⟨.agg [.c c1, .c c2], []⟩) (([b], []) :: acc) K) (hd : dstOK dst C.nt = true := by rfl) (hx : st.ev x = some (.it (.one (.rel b (hptrR (j + 1) (i * 2))))) := by rfl) (hb : st.hp b = .ent (.abs (rowsE tO tI size enc js c)) := by rfl) (hj : c[j]? = some r := by assumption) (ha : r[i]? = some a := by assumption) (h4 : enc a = [c1, c2] := by rfl) : Go1 P C ops dst (.load t x) ty rest st acc K :=
  Go1.loadHI (l := [c1, c2]) hd hx hb hj ((flat_at (enc := enc) (size := 2) ha).trans h4) rfl next
end
attribute [local irreducible] IntKind.wrap Go1 Reg WP thenK inBlk retQ retF RetF RetOK ResOK CallOK OpOK Sat
structure HeldB (q : Prop) : Prop where
  out : q
theorem goB {p q : Prop} (h : q) (k : HeldB q → p := by
    intro h
    (first
      | (refine SX.Go1.is ?_; first
          | (refine SX.Go1.isLoad ?_; first | refine SX.G.load2 ?_ | refine SX.G.load1 ?_ | refine SX.G.loadR1 ?_ | refine SX.G.loadR2 ?_ | refine SX.G.load4 ?_ | refine SX.G.loadR4 ?_ | refine SX.G.load5 ?_ | refine SX.G.load15 ?_ | refine SX.G.loadA1 ?_ | refine SX.G.loadRA1 ?_ | refine SX.G.loadR15 ?_ | refine SX.G.loadH ?_ | refine SX.G.loadHI2 ?_ | refine SX.G.loadHI ?_ | refine SX.G.loadOWA ?_ | refine SX.G.loadOW2 ?_ | refine SX.G.load3 ?_ | refine SX.G.loadR3 ?_ | refine SX.G.loadOW ?_ | refine SX.G.loadO1 ?_)
          | (refine SX.Go1.isBin ?_; first | refine SX.G.lss ?_ | refine SX.G.eql ?_ | refine SX.G.eqlNilT ?_ | refine SX.G.eqlNilF ?_ | refine SX.G.neq ?_ | refine SX.G.gtr ?_ | refine SX.G.geq ?_ | refine SX.G.leq ?_ | refine SX.G.addN ?_ | refine SX.G.addNu ?_ | refine SX.G.subN ?_ | refine SX.G.subNu ?_ | refine SX.G.add ?_ | refine SX.G.sub ?_ | refine SX.G.mulN ?_ | refine SX.G.mulNu ?_ | refine SX.G.mul ?_ | refine SX.G.quoN ?_ | refine SX.G.quoNu ?_ | refine SX.G.quo ?_ | refine SX.G.remN ?_ | refine SX.G.remNu ?_ | refine SX.G.rem ?_ | refine SX.G.eqlT ?_ | refine SX.G.eqlNN ?_ | refine SX.G.eqlPN ?_ | refine SX.G.neqPP ?_ | refine SX.G.neqT ?_ | refine SX.G.eqlB ?_ | refine SX.G.neqB ?_ | refine SX.G.shr ?_ | refine SX.G.shl ?_ | refine SX.G.and ?_ | refine SX.G.addT ?_)
          | (refine SX.Go1.isUn ?_; first | refine SX.G.not ?_ | refine SX.G.neg ?_)
          | (refine SX.Go1.isField ?_; first | refine SX.G.fieldAddr ?_ | refine SX.G.fieldAddrR ?_)
          | (refine SX.Go1.isBuild ?_; first | refine SX.G.buildA ?_ | refine SX.G.build1 ?_ | refine SX.G.build2 ?_ | refine SX.G.build3 ?_ | refine SX.G.build4 ?_ | refine SX.G.build5 ?_ | refine SX.G.build15 ?_ | refine SX.G.build17 ?_ | refine SX.G.build21 ?_ | refine SX.G.build ?_)
          | (refine SX.Go1.isStore ?_; first | refine SX.G.store ?_ | refine SX.G.storeP ?_ | refine SX.G.storeH ?_ | refine SX.G.storeHI ?_ | refine SX.G.storeOWA ?_ | refine SX.G.storeO ?_)
          | (refine SX.Go1.isIx ?_; first | refine SX.G.indexAddrW ?_ | refine SX.G.indexAddrV ?_ | refine SX.G.indexAddrR ?_ | refine SX.G.indexAddrH ?_ | refine SX.G.indexAddrO ?_ | refine SX.G.indexAddrA ?_ | refine SX.G.indexAddrG ?_)
          | (refine SX.Go1.isBuildS ?_; first | refine SX.G.lit0Own ?_ | refine SX.G.litH ?_ | refine SX.G.litOwn ?_ | refine SX.G.lit2Own ?_ | refine SX.G.lit2 ?_ | refine SX.G.lit3 ?_ | refine SX.G.lit1 ?_)
          | (refine SX.Go1.isCall ?_; first | refine SX.G.minN ?_ | refine SX.G.maxN ?_ | refine SX.G.maxL ?_ | refine SX.G.maxR ?_ | refine SX.G.lenR ?_ | refine SX.G.lenN ?_ | refine SX.G.lenT ?_ | refine SX.G.lenS ?_ | refine SX.G.lenO ?_ | refine SX.G.appendW ?_ | refine SX.G.appendNilW ?_ | refine SX.G.appendT ?_ | refine SX.G.sliceDataN ?_ | refine SX.G.sliceDataO ?_ | refine SX.G.unsafeStrN ?_ | refine SX.G.unsafeStrO ?_ | refine SX.G.lenH ?_ | refine SX.G.appendH ?_ | refine SX.G.callF ?_ | refine SX.G.callP ?_ | refine SX.G.callB ?_ | refine SX.G.callOwn ?_ | refine SX.G.call ?_)
          | refine SX.G.move ?_ | refine SX.G.assign ?_ | refine SX.G.extract ?_ | refine SX.G.boxN ?_ | refine SX.G.box ?_ | refine SX.G.allocN ?_ | refine SX.G.alloc ?_ | refine SX.G.nilCheckP ?_ | refine SX.G.nilCheckR ?_ | refine SX.G.mkfn ?_ | refine SX.G.mkfnA ?_ | refine SX.G.mkclo ?_ | refine SX.G.mkbnd ?_ | refine SX.G.pick ?_ | refine SX.R.pickT ?_ | refine SX.R.pickF ?_ | refine SX.G.pickB ?_ | refine SX.G.pickV ?_ | refine SX.G.makeN ?_ | refine SX.G.makeG ?_ | refine SX.G.makeC ?_ | refine SX.G.convN ?_ | refine SX.G.conv ?_ | refine SX.G.convBS ?_ | refine SX.G.convPU ?_ | refine SX.G.sliceH ?_ | refine SX.G.sliceHiW ?_ | refine SX.G.sliceLoW ?_ | refine SX.G.sliceHiR ?_ | refine SX.G.sliceLoR ?_ | refine SX.G.sliceHiO ?_ | refine SX.G.sliceHiT ?_ | refine SX.G.sliceLoT ?_ | refine SX.G.sliceLHT ?_ | refine SX.G.loadB ?_ | refine SX.G.loadB15 ?_ | refine SX.G.lookM ?_ | refine SX.G.lookM0 ?_ | refine SX.G.putM ?_ | refine SX.G.makeMap ?_ | refine SX.G.loadRT3 ?_ | refine SX.G.loadRT4 ?_ | refine SX.G.loadRT2 ?_ | refine SX.G.indexA ?_ | refine SX.G.indexT ?_ | refine SX.G.sliceHiS ?_ | refine SX.G.sliceLoS ?_ | refine SX.G.sliceLHS ?_ | refine SX.G.indexS ?_)
      | (refine SX.Reg.is ?_; first | refine SX.Reg.go ?_ | refine SX.R.runT ?_ | refine SX.R.runF ?_ | refine SX.R.skipT ?_ | refine SX.R.skipF ?_ | refine SX.R.skipU ?_ | refine SX.Reg.nil ⟨by kernel_rfl, ?_⟩ | refine SX.Reg.nil ?_)
      | (refine SX.WP.is ?_; first | refine SX.WP.seq ?_ | refine SX.WP.regionN (by rfl) ?_ | refine SX.WP.regionDN (by rfl) (by kernel_rfl) ?_ | refine SX.WP.block ?_ | refine SX.WP.skip ?_ | refine SX.WP.exit ?_ | refine SX.WP.ret ?_ | refine SX.WP.label ?_ | refine SX.W.condT ?_ | refine SX.W.condF ?_)
      | refine SX.thenN ?_ | refine SX.thenE ?_ | refine SX.thenR ?_ | refine SX.inBlkN ?_ | refine SX.inBlkR ?_ | refine SX.inBlkE ?_ | refine SX.inBlkO rfl ?_ | refine SX.retR ?_ | refine SX.retN ?_ | refine SX.retFR ?_ | refine SX.retFN ?_)
    repeat (first
      | (refine SX.Go1.is ?_; first
          | (refine SX.Go1.isLoad ?_; first | refine SX.G.load2 ?_ | refine SX.G.load1 ?_ | refine SX.G.loadR1 ?_ | refine SX.G.loadR2 ?_ | refine SX.G.load4 ?_ | refine SX.G.loadR4 ?_ | refine SX.G.load5 ?_ | refine SX.G.load15 ?_ | refine SX.G.loadA1 ?_ | refine SX.G.loadRA1 ?_ | refine SX.G.loadR15 ?_ | refine SX.G.loadH ?_ | refine SX.G.loadHI2 ?_ | refine SX.G.loadHI ?_ | refine SX.G.loadOWA ?_ | refine SX.G.loadOW2 ?_ | refine SX.G.load3 ?_ | refine SX.G.loadR3 ?_ | refine SX.G.loadOW ?_ | refine SX.G.loadO1 ?_)
          | (refine SX.Go1.isBin ?_; first | refine SX.G.lss ?_ | refine SX.G.eql ?_ | refine SX.G.eqlNilT ?_ | refine SX.G.eqlNilF ?_ | refine SX.G.neq ?_ | refine SX.G.gtr ?_ | refine SX.G.geq ?_ | refine SX.G.leq ?_ | refine SX.G.addN ?_ | refine SX.G.addNu ?_ | refine SX.G.subN ?_ | refine SX.G.subNu ?_ | refine SX.G.add ?_ | refine SX.G.sub ?_ | refine SX.G.mulN ?_ | refine SX.G.mulNu ?_ | refine SX.G.mul ?_ | refine SX.G.quoN ?_ | refine SX.G.quoNu ?_ | refine SX.G.quo ?_ | refine SX.G.remN ?_ | refine SX.G.remNu ?_ | refine SX.G.rem ?_ | refine SX.G.eqlT ?_ | refine SX.G.eqlNN ?_ | refine SX.G.eqlPN ?_ | refine SX.G.neqPP ?_ | refine SX.G.neqT ?_ | refine SX.G.eqlB ?_ | refine SX.G.neqB ?_ | refine SX.G.shr ?_ | refine SX.G.shl ?_ | refine SX.G.and ?_ | refine SX.G.addT ?_)
          | (refine SX.Go1.isUn ?_; first | refine SX.G.not ?_ | refine SX.G.neg ?_)
          | (refine SX.Go1.isField ?_; first | refine SX.G.fieldAddr ?_ | refine SX.G.fieldAddrR ?_)
          | (refine SX.Go1.isBuild ?_; first | refine SX.G.buildA ?_ | refine SX.G.build1 ?_ | refine SX.G.build2 ?_ | refine SX.G.build3 ?_ | refine SX.G.build4 ?_ | refine SX.G.build5 ?_ | refine SX.G.build15 ?_ | refine SX.G.build17 ?_ | refine SX.G.build21 ?_ | refine SX.G.build ?_)
          | (refine SX.Go1.isStore ?_; first | refine SX.G.store ?_ | refine SX.G.storeP ?_ | refine SX.G.storeH ?_ | refine SX.G.storeHI ?_ | refine SX.G.storeOWA ?_ | refine SX.G.storeO ?_)
          | (refine SX.Go1.isIx ?_; first | refine SX.G.indexAddrW ?_ | refine SX.G.indexAddrV ?_ | refine SX.G.indexAddrR ?_ | refine SX.G.indexAddrH ?_ | refine SX.G.indexAddrO ?_ | refine SX.G.indexAddrA ?_ | refine SX.G.indexAddrG ?_)
          | (refine SX.Go1.isBuildS ?_; first | refine SX.G.lit0Own ?_ | refine SX.G.litH ?_ | refine SX.G.litOwn ?_ | refine SX.G.lit2Own ?_ | refine SX.G.lit2 ?_ | refine SX.G.lit3 ?_ | refine SX.G.lit1 ?_)
          | (refine SX.Go1.isCall ?_; first | refine SX.G.minN ?_ | refine SX.G.maxN ?_ | refine SX.G.maxL ?_ | refine SX.G.maxR ?_ | refine SX.G.lenR ?_ | refine SX.G.lenN ?_ | refine SX.G.lenT ?_ | refine SX.G.lenS ?_ | refine SX.G.lenO ?_ | refine SX.G.appendW ?_ | refine SX.G.appendNilW ?_ | refine SX.G.appendT ?_ | refine SX.G.sliceDataN ?_ | refine SX.G.sliceDataO ?_ | refine SX.G.unsafeStrN ?_ | refine SX.G.unsafeStrO ?_ | refine SX.G.lenH ?_ | refine SX.G.appendH ?_ | refine SX.G.callF ?_ | refine SX.G.callP ?_ | refine SX.G.callB ?_ | refine SX.G.callOwn ?_ | refine SX.G.call ?_)
          | refine SX.G.move ?_ | refine SX.G.assign ?_ | refine SX.G.extract ?_ | refine SX.G.boxN ?_ | refine SX.G.box ?_ | refine SX.G.allocN ?_ | refine SX.G.alloc ?_ | refine SX.G.nilCheckP ?_ | refine SX.G.nilCheckR ?_ | refine SX.G.mkfn ?_ | refine SX.G.mkfnA ?_ | refine SX.G.mkclo ?_ | refine SX.G.mkbnd ?_ | refine SX.G.pick ?_ | refine SX.R.pickT ?_ | refine SX.R.pickF ?_ | refine SX.G.pickB ?_ | refine SX.G.pickV ?_ | refine SX.G.makeN ?_ | refine SX.G.makeG ?_ | refine SX.G.makeC ?_ | refine SX.G.convN ?_ | refine SX.G.conv ?_ | refine SX.G.convBS ?_ | refine SX.G.convPU ?_ | refine SX.G.sliceH ?_ | refine SX.G.sliceHiW ?_ | refine SX.G.sliceLoW ?_ | refine SX.G.sliceHiR ?_ | refine SX.G.sliceLoR ?_ | refine SX.G.sliceHiO ?_ | refine SX.G.sliceHiT ?_ | refine SX.G.sliceLoT ?_ | refine SX.G.sliceLHT ?_ | refine SX.G.loadB ?_ | refine SX.G.loadB15 ?_ | refine SX.G.lookM ?_ | refine SX.G.lookM0 ?_ | refine SX.G.putM ?_ | refine SX.G.makeMap ?_ | refine SX.G.loadRT3 ?_ | refine SX.G.loadRT4 ?_ | refine SX.G.loadRT2 ?_ | refine SX.G.indexA ?_ | refine SX.G.indexT ?_ | refine SX.G.sliceHiS ?_ | refine SX.G.sliceLoS ?_ | refine SX.G.sliceLHS ?_ | refine SX.G.indexS ?_)
      | (refine SX.Reg.is ?_; first | refine SX.Reg.go ?_ | refine SX.R.runT ?_ | refine SX.R.runF ?_ | refine SX.R.skipT ?_ | refine SX.R.skipF ?_ | refine SX.R.skipU ?_ | refine SX.Reg.nil ⟨by kernel_rfl, ?_⟩ | refine SX.Reg.nil ?_)
      | (refine SX.WP.is ?_; first | refine SX.WP.seq ?_ | refine SX.WP.regionN (by rfl) ?_ | refine SX.WP.regionDN (by rfl) (by kernel_rfl) ?_ | refine SX.WP.block ?_ | refine SX.WP.skip ?_ | refine SX.WP.exit ?_ | refine SX.WP.ret ?_ | refine SX.WP.label ?_ | refine SX.W.condT ?_ | refine SX.W.condF ?_)
      | refine SX.thenN ?_ | refine SX.thenE ?_ | refine SX.thenR ?_ | refine SX.inBlkN ?_ | refine SX.inBlkR ?_ | refine SX.inBlkE ?_ | refine SX.inBlkO rfl ?_ | refine SX.retR ?_ | refine SX.retN ?_ | refine SX.retFR ?_ | refine SX.retFN ?_)
    exact h.out) : p := k ⟨h⟩
end SX
set_option linter.unusedVariables false
set_option linter.unusedSimpArgs false
namespace SX
open Go Go.RowKit
section
variable {ι : Type}
def exE (φ : ι → Prop) (A : ι → AEnt) : AEnt where
  has b v X S w := ∃ p, φ p ∧ (A p).has b v X S w
  step := fun {b v X S S' w w'} ⟨p, hp, h⟩ ho hs hX => ⟨p, hp, (A p).step h ho hs hX⟩
def abSt (st : St) (b : Nat) (B : AEnt) : St := ⟨st.tm, updL st.hp [(b, .ent (.abs B))]⟩
theorem SatE.absI {C : Ctx} {st : St} {E : Env} {S : Nat → Prop} {a : Act} {w : World} {b : Nat} {A B : AEnt} (hs : SatE C st E S a w) (hb : st.hp b = .ent (.abs A)) (hB : B.has (E.blk b) (E.sl b) (E.fp b) S w) : SatE C (abSt st b B) E S a w := by
  have hkey : ∀ i e, (abSt st b B).hp i = .ent e → (i = b ∧ e = .abs B) ∨ (i ≠ b ∧ st.hp i = .ent e) := fun i e h => by
    have h : upd st.hp b (.ent (.abs B)) i = .ent e := h
    by_cases hi : i = b
    · subst hi; rw [upd_same] at h; cases h; exact .inl ⟨rfl, rfl⟩
    · rw [upd_ne _ _ hi] at h; exact .inr ⟨hi, h⟩
  have hused : ∀ i, (st.hp i).used = true → ((abSt st b B).hp i).used = true := fun i hi => by
    show (upd st.hp b (.ent (.abs B)) i).used = true
    by_cases h : i = b
    · subst h; rw [upd_same]; rfl
    · rw [upd_ne _ _ h]; exact hi
  have hat : ∀ i e k, (abSt st b B).hp i = .ent e → e.at E i k → ∃ e0, st.hp i = .ent e0 ∧ e0.at E i k := fun i e k hi hk => by
    rcases hkey i e hi with ⟨rfl, rfl⟩ | ⟨_, h⟩
    · exact ⟨_, hb, hk⟩
    · exact ⟨_, h, hk⟩
  refine { dfr := hs.dfr, nt := hs.nt, cT := hs.cT, cT0 := hs.cT0, cS := hs.cS, lt := hs.lt, tm := hs.tm, tid := fun t v ht i hi => hused i (hs.tid t v ht i hi), hp := fun i e hi => ?_, hid := fun i e hi j hj => ?_, blk := fun i e k hi hk => ?_, sep := fun i i' e1 e2 k hne hi hi' hk hk' => ?_, off := hs.off, env := fun i hi => ?_, gl := hs.gl }
  · rcases hkey i e hi with ⟨rfl, rfl⟩ | ⟨_, h⟩
    · exact hB
    · exact hs.hp i e h
  · rcases hkey i e hi with ⟨rfl, rfl⟩ | ⟨_, h⟩
    · cases hj
    · exact hused j (hs.hid i e h j hj)
  · obtain ⟨e0, h0, h1⟩ := hat i e k hi hk
    exact hs.blk i e0 k h0 h1
  · obtain ⟨e0, h0, h1⟩ := hat i e1 k hi hk
    obtain ⟨e0', h0', h1'⟩ := hat i' e2 k hi' hk'
    exact hs.sep i i' e0 e0' k hne h0 h0' h1 h1'
  · obtain ⟨g1, g2, g3⟩ := hs.env i hi
    exact ⟨g1, g2, hused i g3⟩
theorem WP.openX {P : Program} {C : Ctx} {st : St} {Q : Exit → St → Prop} {cd : Code} {φ : ι → Prop} {A : ι → AEnt} (b : Nat) (hb : st.hp b = .ent (.abs (exE φ A))) (h : ∀ p, φ p → WP P C cd (abSt st b (A p)) Q) : WP P C cd st Q := fun a w hw => by
  obtain ⟨E, S, hs⟩ := hw
  obtain ⟨p, hp, hA⟩ : ∃ p, φ p ∧ (A p).has (E.blk b) (E.sl b) (E.fp b) S w := hs.hp b _ hb
  exact h p hp a w ⟨E, S, hs.absI hb hA⟩
theorem St.le_absI {C : Ctx} {st : St} {A B : AEnt} (b : Nat) (hb : st.hp b = .ent (.abs A)) (hI : ∀ bk v X S w, A.has bk v X S w → B.has bk v X S w) : St.le C st (abSt st b B) := fun a w hw => by
  obtain ⟨E, S, hs⟩ := hw
  exact ⟨E, S, hs.absI hb (hI _ _ _ _ _ (hs.hp b _ hb))⟩
theorem EntTo.absI {st : St} {ρ : List (Nat × Option Nat)} {b : Nat} {A B : AEnt} (h : st.hp b = .ent (.abs A)) (hI : ∀ bk v X S w, A.has bk v X S w → B.has bk v X S w) (hf : fresh ρ [b] = true) : EntTo st ρ b (.abs B) := by
  have ha := fresh_at hf
  have hfp := fresh_fp hf
  refine .old b _ h (.inr ⟨?_, rfl⟩) (fun E S w hh => ?_) (fun E => ?_)
  · have := List.all_eq_true.1 hf b List.mem_cons_self
    simpa using this
  · have h1 := hI _ _ _ _ _ (show A.has (E.blk b) (E.sl b) (E.fp b) S w from hh)
    show B.has ((reEnv ρ E).blk b) ((reEnv ρ E).sl b) ((reEnv ρ E).fp b) S w
    rw [(ha E b List.mem_cons_self).1, (ha E b List.mem_cons_self).2, hfp E b List.mem_cons_self]; exact h1
  · show (reEnv ρ E).fp b = E.fp b
    exact hfp E b List.mem_cons_self
theorem AVto.rel {ρ : List (Nat × Option Nat)} {o b : Nat} {R : Nat → Value → Value → Prop} (h : lk ρ b = some (some o)) : AVto ρ (.it (.one (.rel o R))) (.it (.one (.rel b R))) := fun E S w v hv => by
  obtain ⟨h1, h2⟩ := hv
  exact ⟨by simp only [reEnv, h]; exact h1, h2⟩
theorem AVto.nilRel {ρ : List (Nat × Option Nat)} {b : Nat} (h : lk ρ b = some none) : AVto ρ (.v (.slice none 0 0)) (.it (.one (.rel b (hdrR 0)))) := fun E S w v hv => by
  have hv' : v = .slice none 0 0 := hv
  subst hv'
  exact ⟨by simp only [reEnv, h]; rfl, rfl⟩
theorem abs_at {E : Env} {s : Nat} (A : AEnt) (k : Nat) : (∃ b e, (b, e) ∈ [(s, Ent.abs A)] ∧ e.at E b k) ↔ E.fp s k := by
  refine ⟨fun ⟨b, e, hm, hk⟩ => ?_, fun hk => ⟨s, .abs A, by simp, hk⟩⟩
  simp only [List.mem_singleton, Prod.mk.injEq] at hm
  obtain ⟨rfl, rfl⟩ := hm
  exact hk
theorem CallOK.preI {P : Program} {f : FuncId} {args : List AV} {s : Nat} {A B : AEnt} {out : Out} (h : CallOK P f args [(s, .abs A)] out) (hI : ∀ bk v X S w, B.has bk v X S w → A.has bk v X S w) : CallOK P f args [(s, .abs B)] out := by
  refine ⟨h.1, fun E S w vs hl hg hv h1 h2 h3 => ((h.2 E S w vs hl hg hv (fun b e hb => ?_) (fun b e k hb hk => ?_) (fun b1 b2 e1 e2 k hne hb1 hb2 => ?_)).mono ?_)⟩
  · simp only [List.mem_singleton, Prod.mk.injEq] at hb
    obtain ⟨rfl, rfl⟩ := hb
    exact hI _ _ _ _ _ (h1 b (.abs B) (by simp))
  · simp only [List.mem_singleton, Prod.mk.injEq] at hb
    obtain ⟨rfl, rfl⟩ := hb
    exact h2 b (.abs B) k (by simp) hk
  · simp only [List.mem_singleton, Prod.mk.injEq] at hb1 hb2
    exact absurd (hb1.1.trans hb2.1.symm) hne
  · rintro e w' ⟨v, E', S', rfl, hE⟩
    have hp : (fun k => ∃ b e, (b, e) ∈ [(s, Ent.abs A)] ∧ e.at E b k) = fun k => ∃ b e, (b, e) ∈ [(s, Ent.abs B)] ∧ e.at E b k := funext fun k => propext ((abs_at A k).trans (abs_at B k).symm)
    refine ⟨v, E', S', rfl, { env := fun b hb => hE.env b fun hs => ?_, fpe := hE.fpe, sub := hE.sub, new := hE.new, lt := hE.lt, off := hp ▸ hE.off, res := hE.res, ents := hE.ents, blk := fun b e k hb hk => ⟨(hE.blk b e k hb hk).1, ?_⟩, sep := hE.sep }⟩
    · obtain ⟨e, he⟩ := hb hs
      simp only [List.mem_singleton, Prod.mk.injEq] at he
      obtain ⟨rfl, _⟩ := he
      exact ⟨.abs A, by simp⟩
    · exact (hE.blk b e k hb hk).2.imp (fun h => (abs_at B k).2 ((abs_at A k).1 h)) id
theorem CallOK.relTo {P : Program} {f : FuncId} {R : Nat → Value → Value → Prop} {args : List AV} {s : Nat} {A A' : AEnt} (h : CallOK P f (.it (.one (.rel s R)) :: args) [(s, .abs A)] ⟨.tup [], [(s, .ent (.abs A'))]⟩) (hi : ∀ a ∈ args, a.ids = []) (d : Nat) : CallOK P f (.it (.one (.rel d R)) :: args) [(d, .abs A)] ⟨.tup [], [(d, .ent (.abs A'))]⟩ := by
  refine ⟨h.1, fun E S w vs hl hg hv h1 h2 h3 => ?_⟩
  obtain ⟨E1, b1, b2, b3⟩ : ∃ E1 : Env, E1.blk s = E.blk d ∧ E1.sl s = E.sl d ∧ E1.fp s = E.fp d := ⟨⟨upd E.blk s (E.blk d), upd E.sl s (E.sl d), upd E.fp s (E.fp d)⟩, upd_same _ _ _, upd_same _ _ _, upd_same _ _ _⟩
  have a0 : A.has (E.blk d) (E.sl d) (E.fp d) S w := h1 d (.abs A) (by simp)
  have hv1 : All2 (AV.has E1 S w) (.it (.one (.rel s R)) :: args) vs := by
    match vs, hv with
    | v :: vs, ⟨g1, g2⟩ =>
      obtain ⟨q1, q2⟩ := g1
      exact ⟨⟨(by rw [b1, b2]; exact q1 : R (E1.blk s) (E1.sl s) v), q2⟩, g2.mono fun a u ha hh => hh.env fun b hb => by rw [hi a ha] at hb; cases hb⟩
  refine (h.2 E1 S w vs hl hg hv1 (fun b e hb => ?_) (fun b e k hb hk => ?_) (fun c1 c2 e1 e2 k hne hb1 hb2 => ?_)).mono ?_
  · simp only [List.mem_singleton, Prod.mk.injEq] at hb
    obtain ⟨rfl, rfl⟩ := hb
    show A.has (E1.blk b) (E1.sl b) (E1.fp b) S w
    rw [b1, b2, b3]; exact a0
  · simp only [List.mem_singleton, Prod.mk.injEq] at hb
    obtain ⟨rfl, rfl⟩ := hb
    have hk' : E1.fp b k := hk
    rw [b3] at hk'
    exact h2 d (.abs A) k (by simp) hk'
  · simp only [List.mem_singleton, Prod.mk.injEq] at hb1 hb2
    exact absurd (hb1.1.trans hb2.1.symm) hne
  · rintro e w' ⟨v, E', S', rfl, hE⟩
    have ent : A'.has (E'.blk s) (E'.sl s) (E'.fp s) S' w' := hE.ents s (.abs A') (by simp)
    have e1 : E1.at' E' s := hE.env s (fun _ => ⟨.abs A, by simp⟩)
    have hp : (fun k => ∃ b e, (b, e) ∈ [(s, Ent.abs A)] ∧ e.at E1 b k) = fun k => ∃ b e, (b, e) ∈ [(d, Ent.abs A)] ∧ e.at E b k := funext fun k => propext ((abs_at A k).trans ((by rw [b3] : E1.fp s k ↔ E.fp d k).trans (abs_at A k).symm))
    refine ⟨v, ⟨E.blk, E.sl, upd E.fp d (E'.fp s)⟩, S', rfl, { env := fun b hb => ⟨rfl, rfl⟩, fpe := fun b hb => upd_ne _ _ ?_, sub := hE.sub, new := hE.new, lt := hE.lt, off := hp ▸ hE.off, res := ?_, ents := fun b e hb => ?_, blk := fun b e k hb hk => ?_, sep := fun c1 c2 f1 f2 k hne hb hb' => ?_ }⟩
    · rintro rfl
      exact hb _ (by simp; rfl)
    · exact hE.res.env fun b hb => by simp [AV.ids] at hb
    · simp at hb
      obtain ⟨rfl, rfl⟩ := hb
      show A'.has (E.blk b) (E.sl b) (upd E.fp b (E'.fp s) b) S' w'
      rw [upd_same]
      rw [e1.1, e1.2, b1, b2] at ent
      exact ent
    · simp at hb
      obtain ⟨rfl, rfl⟩ := hb
      have hk' : upd E.fp b (E'.fp s) b k := hk
      rw [upd_same] at hk'
      obtain ⟨g1, g2⟩ := hE.blk s (.abs A') k (by simp) hk'
      refine ⟨g1, g2.imp (fun h => (abs_at A k).2 ?_) id⟩
      have := (abs_at A k).1 h
      rw [b3] at this; exact this
    · simp at hb hb'
      exact absurd (hb.1.trans hb'.1.symm) hne
theorem CallOK.newTo {P : Program} {f : FuncId} {R : Nat → Value → Value → Prop} {args : List AV} {s : Nat} {A : AEnt} (h : CallOK P f args [] ⟨.it (.one (.rel s R)), [(s, .ent (.abs A))]⟩) (d : Nat) : CallOK P f args [] ⟨.it (.one (.rel d R)), [(d, .ent (.abs A))]⟩ := by
  refine ⟨h.1, fun E S w vs hl hg hv h1 h2 h3 => (h.2 E S w vs hl hg hv (fun b e hb => by cases hb) (fun b e k hb => by cases hb) (fun b b' e e' k _ hb => by cases hb)).mono ?_⟩
  rintro e w' ⟨v, E', S', rfl, hE⟩
  obtain ⟨r1, r2⟩ : R (E'.blk s) (E'.sl s) v ∧ v.oneCell' = true := hE.res
  have hent : A.has (E'.blk s) (E'.sl s) (E'.fp s) S' w' := hE.ents s (.abs A) (by simp)
  refine ⟨v, ⟨upd E.blk d (E'.blk s), upd E.sl d (E'.sl s), upd E.fp d (E'.fp s)⟩, S', rfl, { env := fun b hb => ?_, fpe := fun b hb => ?_, sub := hE.sub, new := hE.new, lt := hE.lt, off := hE.off, res := ?_, ents := fun b e hb => ?_, blk := fun b e k hb hk => ?_, sep := fun b b' e e' k hne hb hb' => ?_ }⟩
  · by_cases hbd : b = d
    · subst hbd
      obtain ⟨e, he⟩ := hb ⟨_, by simp; rfl⟩
      cases he
    · exact ⟨upd_ne _ _ hbd, upd_ne _ _ hbd⟩
  · refine upd_ne _ _ fun hbd => ?_
    subst hbd
    exact hb _ (by simp; rfl)
  · show R (upd E.blk d (E'.blk s) d) (upd E.sl d (E'.sl s) d) v ∧ v.oneCell' = true
    rw [upd_same, upd_same]; exact ⟨r1, r2⟩
  · simp at hb
    obtain ⟨rfl, rfl⟩ := hb
    show A.has (upd E.blk b (E'.blk s) b) (upd E.sl b (E'.sl s) b) (upd E.fp b (E'.fp s) b) S' w'
    rw [upd_same, upd_same, upd_same]; exact hent
  · simp at hb
    obtain ⟨rfl, rfl⟩ := hb
    have hk' : upd E.fp b (E'.fp s) b k := hk
    rw [upd_same] at hk'
    exact hE.blk s (.abs A) k (by simp) hk'
  · simp at hb hb'; exact absurd (hb.1.trans hb'.1.symm) hne
theorem callNewA {P : Program} {C : Ctx} {ops : List Oper} {rest : List Oper} {st : St} {acc : _} {K : _} {d : Tmp} {ty : TypeId} {f : FuncId} {xs : Array Operand} {tys : Array TypeId} {args : List AV} {r : AV} {b : Nat} {A : AEnt} (hc : CallOK P f args [] ⟨r, [(b, .ent (.abs A))]⟩) (hr : r.ids.all (Nat.beq b) = true) (ha : evs st xs.toList = some args) (hd : dstOK (some d) C.nt = true) (hf : st.hp b = .free)
    (next : Reg P C ops rest (st.app (some d) ⟨r, [(b, .ent (.abs A))]⟩) (([b], [b]) :: acc) K) : Go1 P C ops (some d) (.call ⟨.value (.func f), xs, tys⟩) ty rest st acc K :=
  Go1.callG (cap := []) (pre := []) (out := ⟨r, [(b, .ent (.abs A))]⟩) (fp := [b]) hd rfl ha (by simpa using hc) (fun b e hb => by cases hb) (fun b s hb => by simp at hb; rw [hb.1]; exact .inr hf) (fun b s hb => by simp at hb; rw [hb.2]; rfl) (fun b s hb => by simp at hb; simp [hb.1])
    (fun i hi => by
      left
      rcases hi with hi | ⟨b', e, hb, hi⟩
      · have : b = i := by simpa using List.all_eq_true.1 hr i hi
        subst this; exact ⟨_, by simp; rfl⟩
      · simp at hb; obtain ⟨rfl, rfl⟩ := hb; cases hi) next
end
theorem W.haltS {P : Program} {C : Ctx} {st : St} {Q : Exit → St → Prop} {x y : Code} (I : List (Nat × AV)) (H : List (Nat × Ent)) (h : WP P C x st (thenK (fun s => St.le C s (mkSt I H)) Q)) (k : WP P C y (mkSt I H) Q) : WP P C x st (thenK (fun s => WP P C y s Q) Q) :=
  WP.mono h fun e s hq => by
    cases e with
    | normal => exact k.weaken hq
    | _ => exact hq
theorem WP.scopeR {P : Program} {C : Ctx} {st : St} {c : Code} {rs : List ResultVar} {out : Out} (h : WP P C c st (SX.retF C P rs out)) : WP P C (.scope c) st (SX.retF C P rs out) := fun a w hs =>
  wp_scope_straight (wp_mono (h a w hs) fun e a w ⟨s, hq, hs⟩ => by
    cases e with
    | goto l => exact (show False from hq).elim
    | _ => exact ⟨s, hq, hs⟩)
end SX
set_option linter.unusedVariables false
set_option linter.unusedSimpArgs false
namespace SX
open Go Go.RowKit
section
variable {P : Program} {C : Ctx} {st : St}
variable {ops rest : List Oper} {acc : List (List Nat × List Nat)} {K : List (List Nat × List Nat) → St → Prop} {dst : Option Tmp} {d : Tmp} {op : Op} {ty t t' : TypeId} {x y z : Operand}
end
structure HeldZ (q : Prop) : Prop where
  out : q
theorem goZ {p q : Prop} (h : q) (k : HeldZ q → p := by
    intro h
    (first
      | (refine SX.Go1.is ?_; first
          | (refine SX.Go1.isLoad ?_; first | refine SX.G.load2 ?_ | refine SX.G.load1 ?_ | refine SX.G.loadR1 ?_ | refine SX.G.loadR2 ?_ | refine SX.G.load4 ?_ | refine SX.G.loadR4 ?_ | refine SX.G.load3 ?_ | refine SX.G.loadR3 ?_ | refine SX.G.loadM1 ?_ | refine SX.G.loadO1 ?_ | refine SX.G.loadMO ?_)
          | (refine SX.Go1.isBin ?_; first | refine SX.G.lss ?_ | refine SX.G.eql ?_ | refine SX.G.neq ?_ | refine SX.G.gtr ?_ | refine SX.G.geq ?_ | refine SX.G.leq ?_ | refine SX.G.add ?_ | refine SX.G.sub ?_ | refine SX.G.mul ?_ | refine SX.G.quo ?_ | refine SX.G.rem ?_ | refine SX.G.eqlB ?_ | refine SX.G.neqB ?_ | refine SX.G.shr ?_ | refine SX.G.shl ?_ | refine SX.G.and ?_)
          | (refine SX.Go1.isUn ?_; first | refine SX.G.not ?_ | refine SX.G.neg ?_)
          | (refine SX.Go1.isField ?_; first | refine SX.G.fieldAddr ?_ | refine SX.G.fieldAddrR ?_)
          | (refine SX.Go1.isBuild ?_; first | refine SX.G.build2 ?_ | refine SX.G.build3 ?_ | refine SX.G.build4 ?_ | refine SX.G.build ?_)
          | (refine SX.Go1.isStore ?_; first | refine SX.G.store ?_)
          | (refine SX.Go1.isIx ?_; first | refine SX.G.indexAddrZ ?_ | refine SX.G.indexAddrO ?_)
          | (refine SX.Go1.isBuildS ?_; first | refine SX.G.lit1 ?_)
          | (refine SX.Go1.isCall ?_; first | refine SX.G.lenR ?_ | refine SX.G.lenN ?_ | refine SX.G.lenS ?_ | refine SX.G.lenO ?_ | refine SX.G.appendW ?_ | refine SX.G.appendNilW ?_)
          | refine SX.G.move ?_ | refine SX.G.assign ?_ | refine SX.G.extract ?_ | refine SX.G.box ?_ | refine SX.G.alloc ?_ | refine SX.G.pick ?_ | refine SX.G.pickHT ?_ | refine SX.G.pickHF ?_ | refine SX.G.pickB ?_ | refine SX.G.pickV ?_ | refine SX.G.conv ?_ | refine SX.G.sliceHiZ ?_ | refine SX.G.sliceLoZ ?_ | refine SX.G.sliceHiP ?_ | refine SX.G.sliceHiS ?_ | refine SX.G.sliceLoS ?_ | refine SX.G.sliceLHS ?_ | refine SX.G.indexS ?_)
      | (refine SX.Reg.is ?_; first | refine SX.Reg.go ?_ | refine SX.Reg.goT rfl rfl rfl ?_ | refine SX.Reg.goF rfl rfl rfl ?_ | refine SX.Reg.goU rfl rfl ?_ | refine SX.Reg.goT rfl rfl (by first | (with_reducible assumption) | assumption) ?_ | refine SX.Reg.goF rfl rfl (by first | (with_reducible assumption) | assumption) ?_ | refine SX.Reg.nil ⟨by kernel_rfl, ?_⟩ | refine SX.Reg.nil ?_)
      | (refine SX.WP.is ?_; first | refine SX.WP.seq ?_ | refine SX.WP.regionL ?_ | refine SX.WP.regionDL (by kernel_rfl) ?_ | refine SX.WP.block ?_ | refine SX.WP.skip ?_ | refine SX.WP.exit ?_ | refine SX.WP.ret ?_ | refine SX.WP.label ?_ | refine SX.WP.condT rfl ?_ | refine SX.WP.condF rfl ?_ | refine SX.WP.condHT rfl (by first | (with_reducible assumption) | assumption) ?_ | refine SX.WP.condHF rfl (by first | (with_reducible assumption) | assumption) ?_)
      | refine SX.thenN ?_ | refine SX.thenE ?_ | refine SX.thenR ?_ | refine SX.inBlkN ?_ | refine SX.inBlkR ?_ | refine SX.inBlkE ?_ | refine SX.inBlkO rfl ?_ | refine SX.retR ?_ | refine SX.retN ?_)
    repeat (first
      | (refine SX.Go1.is ?_; first
          | (refine SX.Go1.isLoad ?_; first | refine SX.G.load2 ?_ | refine SX.G.load1 ?_ | refine SX.G.loadR1 ?_ | refine SX.G.loadR2 ?_ | refine SX.G.load4 ?_ | refine SX.G.loadR4 ?_ | refine SX.G.load3 ?_ | refine SX.G.loadR3 ?_ | refine SX.G.loadM1 ?_ | refine SX.G.loadO1 ?_ | refine SX.G.loadMO ?_)
          | (refine SX.Go1.isBin ?_; first | refine SX.G.lss ?_ | refine SX.G.eql ?_ | refine SX.G.neq ?_ | refine SX.G.gtr ?_ | refine SX.G.geq ?_ | refine SX.G.leq ?_ | refine SX.G.add ?_ | refine SX.G.sub ?_ | refine SX.G.mul ?_ | refine SX.G.quo ?_ | refine SX.G.rem ?_ | refine SX.G.eqlB ?_ | refine SX.G.neqB ?_ | refine SX.G.shr ?_ | refine SX.G.shl ?_ | refine SX.G.and ?_)
          | (refine SX.Go1.isUn ?_; first | refine SX.G.not ?_ | refine SX.G.neg ?_)
          | (refine SX.Go1.isField ?_; first | refine SX.G.fieldAddr ?_ | refine SX.G.fieldAddrR ?_)
          | (refine SX.Go1.isBuild ?_; first | refine SX.G.build2 ?_ | refine SX.G.build3 ?_ | refine SX.G.build4 ?_ | refine SX.G.build ?_)
          | (refine SX.Go1.isStore ?_; first | refine SX.G.store ?_)
          | (refine SX.Go1.isIx ?_; first | refine SX.G.indexAddrZ ?_ | refine SX.G.indexAddrO ?_)
          | (refine SX.Go1.isBuildS ?_; first | refine SX.G.lit1 ?_)
          | (refine SX.Go1.isCall ?_; first | refine SX.G.lenR ?_ | refine SX.G.lenN ?_ | refine SX.G.lenS ?_ | refine SX.G.lenO ?_ | refine SX.G.appendW ?_ | refine SX.G.appendNilW ?_)
          | refine SX.G.move ?_ | refine SX.G.assign ?_ | refine SX.G.extract ?_ | refine SX.G.box ?_ | refine SX.G.alloc ?_ | refine SX.G.pick ?_ | refine SX.G.pickHT ?_ | refine SX.G.pickHF ?_ | refine SX.G.pickB ?_ | refine SX.G.pickV ?_ | refine SX.G.conv ?_ | refine SX.G.sliceHiZ ?_ | refine SX.G.sliceLoZ ?_ | refine SX.G.sliceHiP ?_ | refine SX.G.sliceHiS ?_ | refine SX.G.sliceLoS ?_ | refine SX.G.sliceLHS ?_ | refine SX.G.indexS ?_)
      | (refine SX.Reg.is ?_; first | refine SX.Reg.go ?_ | refine SX.Reg.goT rfl rfl rfl ?_ | refine SX.Reg.goF rfl rfl rfl ?_ | refine SX.Reg.goU rfl rfl ?_ | refine SX.Reg.goT rfl rfl (by first | (with_reducible assumption) | assumption) ?_ | refine SX.Reg.goF rfl rfl (by first | (with_reducible assumption) | assumption) ?_ | refine SX.Reg.nil ⟨by kernel_rfl, ?_⟩ | refine SX.Reg.nil ?_)
      | (refine SX.WP.is ?_; first | refine SX.WP.seq ?_ | refine SX.WP.regionL ?_ | refine SX.WP.regionDL (by kernel_rfl) ?_ | refine SX.WP.block ?_ | refine SX.WP.skip ?_ | refine SX.WP.exit ?_ | refine SX.WP.ret ?_ | refine SX.WP.label ?_ | refine SX.WP.condT rfl ?_ | refine SX.WP.condF rfl ?_ | refine SX.WP.condHT rfl (by first | (with_reducible assumption) | assumption) ?_ | refine SX.WP.condHF rfl (by first | (with_reducible assumption) | assumption) ?_)
      | refine SX.thenN ?_ | refine SX.thenE ?_ | refine SX.thenR ?_ | refine SX.inBlkN ?_ | refine SX.inBlkR ?_ | refine SX.inBlkE ?_ | refine SX.inBlkO rfl ?_ | refine SX.retR ?_ | refine SX.retN ?_)
    exact h.out) : p := k ⟨h⟩
end SX
set_option linter.unusedVariables false
set_option linter.unusedSimpArgs false
namespace SX
open Go Go.RowKit
def B3 (C : Ctx) : Prop := ∀ k, C.B k → k = C.E0.blk 81 ∨ C.E0.sl 82 = .map (some k) ∨ (C.E0.sl 84).ownBlock = some k
abbrev Pre3 (t : TypeId) (cs : List Atom) (l : List (List UInt8 × List CA)) (t2 : TypeId) (size n : Nat) (cells : List CA) : List (Nat × Ent) := [(81, .box t cs), (82, .abs (mapE l)), (84, .row t2 size n cells)]
def valF : AV0 → AV0
  | .one (.clo f []) => .one (.c (.val (.func (.func f) #[] #[])))
  | x => x
section
variable {P : Program} {C : Ctx} {st : St}
variable {ops rest : List Oper} {acc : List (List Nat × List Nat)} {K : List (List Nat × List Nat) → St → Prop} {dst : Option Tmp} {d : Tmp} {ty t : TypeId}
end
end SX
