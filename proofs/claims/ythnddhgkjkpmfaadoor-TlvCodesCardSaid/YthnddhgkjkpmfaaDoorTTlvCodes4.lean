/- TTlvCodes4: own texts of this seat, laid as one. -/
import Derived.Test.YthnddhgkjkpmfaaDoorTTlvCodes3
/- What the printed laws of trees stand on: errors and the sentinels that they wrap; size's functions, told, isShaped, laid, Same, in the printer's form. -/
namespace Go.Proofs.YthnddhgkjkpmfaaDoor.ExtTlvC
set_option linter.unusedSimpArgs false
set_option linter.unusedVariables false
open Go.RowKit Go.Proofs.YthnddhgkjkpmfaaDoorW.PrintWords Go.Proofs.YthnddhgkjkpmfaaDoor.KTlv Go.Proofs.YthnddhgkjkpmfaaDoor.Tlv
structure Gl where
  a0 : Addr
  a1 : Addr
  a2 : Addr
  a3 : Addr
inductive Er where
  | short (n : Int)
  | form (n : Int)
  | tag (n : Int)
  | node (n : Int)
  | len (n x : Int)
def Er.z : Er := .short 0
def Er.num : Er → Int
  | .short _ => 10
  | .form _ => 11
  | .tag _ => 20
  | .node _ => 21
  | .len _ x => x
abbrev GC2 (G : Gl) : Value := .iface 148 (.pointer (some G.a0))
abbrev GC1 (G : Gl) : Value := .iface 148 (.pointer (some G.a1))
abbrev GC3 (G : Gl) : Value := .iface 148 (.pointer (some G.a2))
abbrev GC0 (G : Gl) : Value := .iface 148 (.pointer (some G.a3))
def Er.val (G : Gl) : Er → Value
  | .short n => .agg #[.int .i64 n, .iface 148 (.pointer (some G.a0))]
  | .form n => .agg #[.int .i64 n, .iface 148 (.pointer (some G.a1))]
  | .tag n => .agg #[.int .i64 n, .iface 148 (.pointer (some G.a2))]
  | .node n => .agg #[.int .i64 n, .iface 148 (.pointer (some G.a3))]
  | .len n x => .agg #[.int .i64 n, .iface 64 (.agg #[.int .i64 x])]
def errW (G : Gl) : Option Er → Value
  | none => .nilIface
  | some q => .iface 51 (q.val G)
theorem errW_none (G : Gl) : errW G none = .nilIface := rfl
theorem errW_some (G : Gl) (q : Er) : errW G (some q) = .iface 51 (q.val G) := rfl
theorem Er.v0 (G : Gl) (n : Int) : (Er.short n).val G = .agg #[.int .i64 n, .iface 148 (.pointer (some G.a0))] := rfl
theorem Er.v1 (G : Gl) (n : Int) : (Er.form n).val G = .agg #[.int .i64 n, .iface 148 (.pointer (some G.a1))] := rfl
theorem Er.v2 (G : Gl) (n : Int) : (Er.tag n).val G = .agg #[.int .i64 n, .iface 148 (.pointer (some G.a2))] := rfl
theorem Er.v3 (G : Gl) (n : Int) : (Er.node n).val G = .agg #[.int .i64 n, .iface 148 (.pointer (some G.a3))] := rfl
theorem Er.v4 (G : Gl) (n x : Int) : (Er.len n x).val G = .agg #[.int .i64 n, .iface 64 (.agg #[.int .i64 x])] := rfl
theorem eW (G : Gl) : errW G none = .nilIface ∧ (∀ q : Er, errW G (some q) = .iface 51 (q.val G)) ∧ (∀ n : Int, (Er.short n).val G = .agg #[.int .i64 n, .iface 148 (.pointer (some G.a0))]) ∧
    (∀ n : Int, (Er.form n).val G = .agg #[.int .i64 n, .iface 148 (.pointer (some G.a1))]) ∧ (∀ n : Int, (Er.tag n).val G = .agg #[.int .i64 n, .iface 148 (.pointer (some G.a2))]) ∧
    (∀ n : Int, (Er.node n).val G = .agg #[.int .i64 n, .iface 148 (.pointer (some G.a3))]) ∧ (∀ n x : Int, (Er.len n x).val G = .agg #[.int .i64 n, .iface 64 (.agg #[.int .i64 x])]) :=
  ⟨rfl, fun _ => rfl, fun _ => rfl, fun _ => rfl, fun _ => rfl, fun _ => rfl, fun _ _ => rfl⟩
def GW (G : Gl) (w : World) : Prop := (∃ a0 a1 a2, Size.GA a0 a1 a2 w) ∧ Tlv.GA G.a0 G.a1 G.a2 G.a3 w
theorem GW.below {G : Gl} {w w' : World} (h : GW G w) (hb : Below w.heap.size w w') : GW G w' := by
  obtain ⟨⟨a0, a1, a2, h1⟩, h2⟩ := h
  exact ⟨⟨a0, a1, a2, h1.below hb⟩, h2.below hb⟩
theorem GW.old {G : Gl} {w : World} (h : GW G w) : ExtTlvB.GW w := ⟨h.1, _, _, _, _, h.2⟩
theorem GW.c2 {G : Gl} {w : World} (h : GW G w) : w.cell? ⟨2, 0, none⟩ = some (GC2 G) := h.2.g0
theorem GW.lt2 {G : Gl} {w : World} (h : GW G w) : 2 < w.heap.size := lt_of_cell h.2.g0
theorem GW.c1 {G : Gl} {w : World} (h : GW G w) : w.cell? ⟨1, 0, none⟩ = some (GC1 G) := h.2.g1
theorem GW.lt1 {G : Gl} {w : World} (h : GW G w) : 1 < w.heap.size := lt_of_cell h.2.g1
theorem GW.c3 {G : Gl} {w : World} (h : GW G w) : w.cell? ⟨3, 0, none⟩ = some (GC3 G) := h.2.g2
theorem GW.c0 {G : Gl} {w : World} (h : GW G w) : w.cell? ⟨0, 0, none⟩ = some (GC0 G) := h.2.g3
theorem GW.lt0 {G : Gl} {w : World} (h : GW G w) : 0 < w.heap.size := lt_of_cell h.2.g3
theorem of_if {α : Type} {c : Prop} [Decidable c] {a b : α} (h : (if c then some a else none) = some b) : c ∧ a = b := by
  split at h
  · rename_i hc; exact ⟨hc, Option.some.inj h⟩
  · cases h
def size_Encode.f (a0 : Int) : Option (ByteArray × Int) := some (Size.encS a0, Size.encE a0)
def size_Decode.f (a0 : ByteArray) (a1 : Int) : Option (Int × Int × Int) := if a0.size ≤ 100000 then some (Size.decS a0 a1) else none
theorem size_Decode.calls {G : Gl} (a0 : ByteArray) (a1 : Int) (r1 r2 r3 : Int) (w : World) (hG : GW G w) (h : size_Decode.f a0 a1 = some (r1, r2, r3)) :
    Calls Tryd.prog 70 #[.string a0, .int .i64 a1] w fun e w' => e = .returned (.tuple #[.int .i64 r1, .int .i64 r2, .int .i64 r3]) ∧ Below w.heap.size w w' := by
  obtain ⟨⟨b0, b1, b2, hG⟩, _⟩ := hG
  obtain ⟨hs, h⟩ := of_if h
  have := Size.Decode_c a0 a1 b0 b1 b2 w hG hs
  rw [h] at this
  exact this
def tlv_told.f (a0 : Option Er) : Option Int := some (match a0 with
  | none => 0
  | some q => q.num)
theorem tlv_told.calls {G : Gl} (a0 : Option Er) (r : Int) (w : World) (hG : GW G w) (h : tlv_told.f a0 = some r) :
    Calls Tryd.prog 28 #[errW G a0] w fun e w' => e = .returned (.int .i64 r) ∧ Below w.heap.size w w' := by
  obtain rfl := Option.some.inj h
  cases a0 with
  | none => exact Tlv.told_nil _ _ _ _ w hG.2
  | some q =>
    cases q with
    | short n => exact Tlv.told_short n _ _ _ _ w hG.2
    | form n => exact Tlv.told_form n _ _ _ _ w hG.2
    | tag n => exact Tlv.told_tag n _ _ _ _ w hG.2
    | node n => exact Tlv.told_node n _ _ _ _ w hG.2
    | len n x => exact Tlv.told_len n x _ _ _ _ w hG.2
def few (x : Nd) : Bool := (pre 1 x).all fun p => decide (p.2.f2.length ≤ 1000)
def tlv_isShaped.f (a0_0 : Int) (a0_1 : ByteArray) (l0_2 : List Nd) : Option Bool := if few ⟨a0_0, a0_1, l0_2⟩ = true then some (shaped ⟨a0_0, a0_1, l0_2⟩) else none
theorem tlv_isShaped.calls (a0_0 : Int) (a0_1 : ByteArray) (A0_2 : Option Addr) (c0_2 : Nat) (l0_2 : List Nd) (r : Bool) (w : World) (hr0_2 : Kd.C k24 w A0_2 l0_2.length l0_2) (hc0_2 : l0_2.length ≤ c0_2) (h : tlv_isShaped.f a0_0 a0_1 l0_2 = some r) :
    Calls Tryd.prog 34 #[.agg #[.int .i64 a0_0, .string a0_1, .slice A0_2 l0_2.length c0_2]] w fun e w' => e = .returned (.bool r) ∧ Below w.heap.size w w' := by
  obtain ⟨hf, rfl⟩ := of_if h
  refine Tlv.shaped_c ⟨a0_0, a0_1, l0_2⟩ A0_2 c0_2 w hr0_2 hc0_2 fun p hp => ?_
  have := List.all_eq_true.1 hf p hp
  simpa using this
def tlv_laid.f (a0_0 : Int) (a0_1 : ByteArray) (l0_2 : List Nd) : Option ByteArray := if shaped ⟨a0_0, a0_1, l0_2⟩ = true then some (laid ⟨a0_0, a0_1, l0_2⟩) else none
theorem tlv_laid.calls {G : Gl} (a0_0 : Int) (a0_1 : ByteArray) (A0_2 : Option Addr) (c0_2 : Nat) (l0_2 : List Nd) (r : ByteArray) (w : World) (hr0_2 : Kd.C k24 w A0_2 l0_2.length l0_2) (hc0_2 : l0_2.length ≤ c0_2) (hG : GW G w) (h : tlv_laid.f a0_0 a0_1 l0_2 = some r) :
    Calls Tryd.prog 29 #[.agg #[.int .i64 a0_0, .string a0_1, .slice A0_2 l0_2.length c0_2]] w fun e w' => e = .returned (.string r) ∧ Below w.heap.size w w' := by
  obtain ⟨hf, rfl⟩ := of_if h
  obtain ⟨h1, h2, h3⟩ := shaped_le hf
  exact LTlvB.tlv_laid.calls (2 * (pre 1 (⟨a0_0, a0_1, l0_2⟩ : Nd)).length) a0_0 a0_1 A0_2 c0_2 l0_2 _ w hr0_2 hc0_2 hG.old (laid_f _ ⟨a0_0, a0_1, l0_2⟩ (Nat.lt_succ_self _) 1 _ (Nat.le_refl _) (by omega) (by omega) h2)
def tlv_Same.f (a0_0 : Int) (a0_1 : ByteArray) (l0_2 : List Nd) (a1_0 : Int) (a1_1 : ByteArray) (l1_2 : List Nd) : Option Bool := some (same ⟨a0_0, a0_1, l0_2⟩ ⟨a1_0, a1_1, l1_2⟩)
theorem tlv_Same.calls (a0_0 : Int) (a0_1 : ByteArray) (A0_2 : Option Addr) (c0_2 : Nat) (l0_2 : List Nd) (a1_0 : Int) (a1_1 : ByteArray) (A1_2 : Option Addr) (c1_2 : Nat) (l1_2 : List Nd) (r : Bool) (w : World) (hr0_2 : Kd.C k24 w A0_2 l0_2.length l0_2) (hc0_2 : l0_2.length ≤ c0_2) (hr1_2 : Kd.C k24 w A1_2 l1_2.length l1_2) (hc1_2 : l1_2.length ≤ c1_2) (h : tlv_Same.f a0_0 a0_1 l0_2 a1_0 a1_1 l1_2 = some r) :
    Calls Tryd.prog 23 #[.agg #[.int .i64 a0_0, .string a0_1, .slice A0_2 l0_2.length c0_2], .agg #[.int .i64 a1_0, .string a1_1, .slice A1_2 l1_2.length c1_2]] w fun e w' => e = .returned (.bool r) ∧ Below w.heap.size w w' := by
  obtain rfl := Option.some.inj h
  exact Tlv.Same_c ⟨a0_0, a0_1, l0_2⟩ ⟨a1_0, a1_1, l1_2⟩ A0_2 A1_2 c0_2 c1_2 w hr0_2 hr1_2
theorem some_set (W : World) (p : Addr) (x : Value) (q : Addr) : ((W.setCell p x).cell? q).isSome = (W.cell? q).isSome := ExtTlvA.some_set W p x q
end Go.Proofs.YthnddhgkjkpmfaaDoor.ExtTlvC
/- What the package-level variables of one package hold. -/
namespace Go.Proofs.YthnddhgkjkpmfaaDoor
set_option linter.unusedSimpArgs false
set_option linter.unusedVariables false
namespace TlvL
open Go.RowKit
structure GA (a0 a1 a2 a3 a4 a5 a6 : Addr) (w : World) : Prop where
  et : w.cell? ⟨7, 0, none⟩ = some (.iface 116 (.agg #[.pointer (some ⟨9, 49, none⟩)]))
  g0 : w.cell? ⟨5, 0, none⟩ = some (.iface 148 (.pointer (some a0)))
  g1 : w.cell? ⟨6, 0, none⟩ = some (.iface 148 (.pointer (some a1)))
  g2 : w.cell? ⟨4, 0, none⟩ = some (.iface 148 (.pointer (some a2)))
  g3 : w.cell? ⟨2, 0, none⟩ = some (.iface 148 (.pointer (some a3)))
  g4 : w.cell? ⟨1, 0, none⟩ = some (.iface 148 (.pointer (some a4)))
  g5 : w.cell? ⟨3, 0, none⟩ = some (.iface 148 (.pointer (some a5)))
  g6 : w.cell? ⟨0, 0, none⟩ = some (.iface 148 (.pointer (some a6)))
  n01 : a0 ≠ a1
  n02 : a0 ≠ a2
  n03 : a0 ≠ a3
  n04 : a0 ≠ a4
  n05 : a0 ≠ a5
  n06 : a0 ≠ a6
  n12 : a1 ≠ a2
  n13 : a1 ≠ a3
  n14 : a1 ≠ a4
  n15 : a1 ≠ a5
  n16 : a1 ≠ a6
  n23 : a2 ≠ a3
  n24 : a2 ≠ a4
  n25 : a2 ≠ a5
  n26 : a2 ≠ a6
  n34 : a3 ≠ a4
  n35 : a3 ≠ a5
  n36 : a3 ≠ a6
  n45 : a4 ≠ a5
  n46 : a4 ≠ a6
  n56 : a5 ≠ a6
  h0 : ∃ c t, w.heap[a0.block]? = some (.cells c t (0, 0))
  h1 : ∃ c t, w.heap[a1.block]? = some (.cells c t (0, 0))
  h2 : ∃ c t, w.heap[a2.block]? = some (.cells c t (0, 0))
  h3 : ∃ c t, w.heap[a3.block]? = some (.cells c t (0, 0))
  h4 : ∃ c t, w.heap[a4.block]? = some (.cells c t (0, 0))
  h5 : ∃ c t, w.heap[a5.block]? = some (.cells c t (0, 0))
  h6 : ∃ c t, w.heap[a6.block]? = some (.cells c t (0, 0))
end TlvL
end Go.Proofs.YthnddhgkjkpmfaaDoor
/- What the rows' list of package-level variables gives: what they hold (errors of errors.New's make, and utf8's two tables where they are listed). And a start that meets it. -/
namespace Go.Proofs.YthnddhgkjkpmfaaDoor
set_option linter.unusedSimpArgs false
set_option linter.unusedVariables false
namespace TlvL
open Go.RowKit Go.ChangeShapes Go.WideShapes Go.ChangeAt
theorem star : "*" ++ "errors.errorString" = "*errors.errorString" := by decide
theorem rowES (u : TypeId) (h : Tryd.prog.typeName? 3 u = some "*errors.errorString") : u = 148 :=
  typeName_ptr_named (nm := "errors.errorString") (by rw [star]; kernel_rfl) (by kernel_rfl) (by decide) u (by rw [star]; exact h)
theorem cellsES : Tryd.prog.cellsOf 168 = 1 := by kernel_rfl
theorem cellsStr : Tryd.prog.cellsOf 9 = 1 := by kernel_rfl
theorem etN : Tryd.prog.globalNamed "errors.errorType" = some 7 := by kernel_rfl
theorem rtT : (Tryd.prog.cutTypes.find? (·.1 == "internal/reflectlite.rtype")).map (·.2) = some 116 := by kernel_rfl
theorem tsize : Tryd.prog.types.size = 180 := by kernel_rfl
theorem oneRow : ((List.range 180).filter fun t => Tryd.prog.rowNamed t [101, 114, 114, 111, 114]) = [49] := by kernel_rfl
theorem gn0 : Tryd.prog.globalNamed "latiner/size.errShort" = some 5 := by kernel_rfl
theorem gt0 : (Tryd.prog.globals[5]?).map (·.type) = some 49 := by kernel_rfl
theorem gn1 : Tryd.prog.globalNamed "latiner/size.errForm" = some 6 := by kernel_rfl
theorem gt1 : (Tryd.prog.globals[6]?).map (·.type) = some 49 := by kernel_rfl
theorem gn2 : Tryd.prog.globalNamed "latiner/size.errSize" = some 4 := by kernel_rfl
theorem gt2 : (Tryd.prog.globals[4]?).map (·.type) = some 49 := by kernel_rfl
theorem gn3 : Tryd.prog.globalNamed "latiner/tlv.errShort" = some 2 := by kernel_rfl
theorem gt3 : (Tryd.prog.globals[2]?).map (·.type) = some 49 := by kernel_rfl
theorem gn4 : Tryd.prog.globalNamed "latiner/tlv.errForm" = some 1 := by kernel_rfl
theorem gt4 : (Tryd.prog.globals[1]?).map (·.type) = some 49 := by kernel_rfl
theorem gn5 : Tryd.prog.globalNamed "latiner/tlv.errTag" = some 3 := by kernel_rfl
theorem gt5 : (Tryd.prog.globals[3]?).map (·.type) = some 49 := by kernel_rfl
theorem gn6 : Tryd.prog.globalNamed "latiner/tlv.errNode" = some 0 := by kernel_rfl
theorem gt6 : (Tryd.prog.globals[0]?).map (·.type) = some 49 := by kernel_rfl
def laid : List (String × DataW Unit) := [("errors.errorType", Rows.laid_errors_errorType), ("latiner/size.errShort", Rows.laid_latiner_size_errShort), ("latiner/size.errForm", Rows.laid_latiner_size_errForm), ("latiner/size.errSize", Rows.laid_latiner_size_errSize), ("latiner/tlv.errShort", Rows.laid_latiner_tlv_errShort), ("latiner/tlv.errForm", Rows.laid_latiner_tlv_errForm), ("latiner/tlv.errTag", Rows.laid_latiner_tlv_errTag), ("latiner/tlv.errNode", Rows.laid_latiner_tlv_errNode)]
set_option maxRecDepth 10000 in
theorem ga_of_laid0 {W : World} (h : laidMetH Tryd.prog laid W) : ∃ a0 a1 a2 a3 a4 a5 a6, GA a0 a1 a2 a3 a4 a5 a6 W := by
  have h' : laidMet Tryd.prog [("latiner/size.errShort", Rows.laid_latiner_size_errShort), ("latiner/size.errForm", Rows.laid_latiner_size_errForm), ("latiner/size.errSize", Rows.laid_latiner_size_errSize), ("latiner/tlv.errShort", Rows.laid_latiner_tlv_errShort), ("latiner/tlv.errForm", Rows.laid_latiner_tlv_errForm), ("latiner/tlv.errTag", Rows.laid_latiner_tlv_errTag), ("latiner/tlv.errNode", Rows.laid_latiner_tlv_errNode)] W ∧ handlesMet Tryd.prog [("errors.errorType", Rows.laid_errors_errorType)] W := h
  obtain ⟨hl, hh⟩ := h'
  clear h
  have het : W.cell? ⟨7, 0, none⟩ = some (.iface 116 (.agg #[.pointer (some ⟨9, 49, none⟩)])) := by
    obtain ⟨name, u, ty, e1, e2, e3, e4, e5⟩ := hh _ (List.mem_singleton.2 rfl)
    have en : name = [101, 114, 114, 111, 114] := (Option.some.inj e1).symm
    subst en
    obtain rfl := Option.some.inj (rtT.symm.trans e2)
    have hm : ty ∈ (List.range 180).filter fun t => Tryd.prog.rowNamed t [101, 114, 114, 111, 114] := List.mem_filter.2 ⟨List.mem_range.2 (by rw [← tsize]; exact e3), e4⟩
    rw [oneRow] at hm
    obtain rfl := List.mem_singleton.1 hm
    have hh : typeHandle Tryd.prog 49 = .pointer (some ⟨9, 49, none⟩) := by kernel_rfl
    rw [hh] at e5
    simpa using World.var?_cell etN e5 0
  obtain ⟨ps, ⟨g0', t0', cs0, f0, p0, q0, hg0', ht0', hv0, hd0, ⟨g1', t1', cs1, f1, p1, q1, hg1', ht1', hv1, hd1, ⟨g2', t2', cs2, f2, p2, q2, hg2', ht2', hv2, hd2, ⟨g3', t3', cs3, f3, p3, q3, hg3', ht3', hv3, hd3, ⟨g4', t4', cs4, f4, p4, q4, hg4', ht4', hv4, hd4, ⟨g5', t5', cs5, f5, p5, q5, hg5', ht5', hv5, hd5, ⟨g6', t6', cs6, f6, p6, q6, hg6', ht6', hv6, hd6, _, e6⟩, e5⟩, e4⟩, e3⟩, e2⟩, e1⟩, e0⟩, hnd, hrows⟩ := hl
  obtain rfl := Option.some.inj (gn0.symm.trans hg0')
  obtain rfl := Option.some.inj (gt0.symm.trans ht0')
  obtain rfl := Option.some.inj (gn1.symm.trans hg1')
  obtain rfl := Option.some.inj (gt1.symm.trans ht1')
  obtain rfl := Option.some.inj (gn2.symm.trans hg2')
  obtain rfl := Option.some.inj (gt2.symm.trans ht2')
  obtain rfl := Option.some.inj (gn3.symm.trans hg3')
  obtain rfl := Option.some.inj (gt3.symm.trans ht3')
  obtain rfl := Option.some.inj (gn4.symm.trans hg4')
  obtain rfl := Option.some.inj (gt4.symm.trans ht4')
  obtain rfl := Option.some.inj (gn5.symm.trans hg5')
  obtain rfl := Option.some.inj (gt5.symm.trans ht5')
  obtain rfl := Option.some.inj (gn6.symm.trans hg6')
  obtain rfl := Option.some.inj (gt6.symm.trans ht6')
  subst e6
  subst e5
  subst e4
  subst e3
  subst e2
  subst e1
  subst e0
  obtain ⟨l0⟩ := cs0
  obtain ⟨l1⟩ := cs1
  obtain ⟨l2⟩ := cs2
  obtain ⟨l3⟩ := cs3
  obtain ⟨l4⟩ := cs4
  obtain ⟨l5⟩ := cs5
  obtain ⟨l6⟩ := cs6
  have ok0 : ∀ u v, l0 = [.iface u v] → Value.okWide Tryd.prog W .any 0 u v := fun u v e => by
    subst e
    exact (hrows 5 0 (by simp [MemPlace.row])).2 u v (by simpa using World.var?_cell hg0' hv0 0)
  have ok1 : ∀ u v, l1 = [.iface u v] → Value.okWide Tryd.prog W .any 0 u v := fun u v e => by
    subst e
    exact (hrows 6 0 (by simp [MemPlace.row])).2 u v (by simpa using World.var?_cell hg1' hv1 0)
  have ok2 : ∀ u v, l2 = [.iface u v] → Value.okWide Tryd.prog W .any 0 u v := fun u v e => by
    subst e
    exact (hrows 4 0 (by simp [MemPlace.row])).2 u v (by simpa using World.var?_cell hg2' hv2 0)
  have ok3 : ∀ u v, l3 = [.iface u v] → Value.okWide Tryd.prog W .any 0 u v := fun u v e => by
    subst e
    exact (hrows 2 0 (by simp [MemPlace.row])).2 u v (by simpa using World.var?_cell hg3' hv3 0)
  have ok4 : ∀ u v, l4 = [.iface u v] → Value.okWide Tryd.prog W .any 0 u v := fun u v e => by
    subst e
    exact (hrows 1 0 (by simp [MemPlace.row])).2 u v (by simpa using World.var?_cell hg4' hv4 0)
  have ok5 : ∀ u v, l5 = [.iface u v] → Value.okWide Tryd.prog W .any 0 u v := fun u v e => by
    subst e
    exact (hrows 3 0 (by simp [MemPlace.row])).2 u v (by simpa using World.var?_cell hg5' hv5 0)
  have ok6 : ∀ u v, l6 = [.iface u v] → Value.okWide Tryd.prog W .any 0 u v := fun u v e => by
    subst e
    exact (hrows 0 0 (by simp [MemPlace.row])).2 u v (by simpa using World.var?_cell hg6' hv6 0)
  obtain ⟨a0, s0, rfl, hc0, hs0, hz0, rfl⟩ := errorString_of_trod Tryd.underlying49 rowES Tryd.underlying148 Tryd.underlying168 rfl rfl Tryd.underlying9 cellsES cellsStr hd0 ok0
  obtain ⟨a1, s1, rfl, hc1, hs1, hz1, rfl⟩ := errorString_of_trod Tryd.underlying49 rowES Tryd.underlying148 Tryd.underlying168 rfl rfl Tryd.underlying9 cellsES cellsStr hd1 ok1
  obtain ⟨a2, s2, rfl, hc2, hs2, hz2, rfl⟩ := errorString_of_trod Tryd.underlying49 rowES Tryd.underlying148 Tryd.underlying168 rfl rfl Tryd.underlying9 cellsES cellsStr hd2 ok2
  obtain ⟨a3, s3, rfl, hc3, hs3, hz3, rfl⟩ := errorString_of_trod Tryd.underlying49 rowES Tryd.underlying148 Tryd.underlying168 rfl rfl Tryd.underlying9 cellsES cellsStr hd3 ok3
  obtain ⟨a4, s4, rfl, hc4, hs4, hz4, rfl⟩ := errorString_of_trod Tryd.underlying49 rowES Tryd.underlying148 Tryd.underlying168 rfl rfl Tryd.underlying9 cellsES cellsStr hd4 ok4
  obtain ⟨a5, s5, rfl, hc5, hs5, hz5, rfl⟩ := errorString_of_trod Tryd.underlying49 rowES Tryd.underlying148 Tryd.underlying168 rfl rfl Tryd.underlying9 cellsES cellsStr hd5 ok5
  obtain ⟨a6, s6, rfl, hc6, hs6, hz6, rfl⟩ := errorString_of_trod Tryd.underlying49 rowES Tryd.underlying148 Tryd.underlying168 rfl rfl Tryd.underlying9 cellsES cellsStr hd6 ok6
  obtain ⟨c0, t0, hb0⟩ := (hrows a0.block a0.off (by simp [MemPlace.row])).1
  obtain ⟨c1, t1, hb1⟩ := (hrows a1.block a1.off (by simp [MemPlace.row])).1
  obtain ⟨c2, t2, hb2⟩ := (hrows a2.block a2.off (by simp [MemPlace.row])).1
  obtain ⟨c3, t3, hb3⟩ := (hrows a3.block a3.off (by simp [MemPlace.row])).1
  obtain ⟨c4, t4, hb4⟩ := (hrows a4.block a4.off (by simp [MemPlace.row])).1
  obtain ⟨c5, t5, hb5⟩ := (hrows a5.block a5.off (by simp [MemPlace.row])).1
  obtain ⟨c6, t6, hb6⟩ := (hrows a6.block a6.off (by simp [MemPlace.row])).1
  refine ⟨a0, a1, a2, a3, a4, a5, a6, het, (by simpa using World.var?_cell gn0 hv0 0), (by simpa using World.var?_cell gn1 hv1 0), (by simpa using World.var?_cell gn2 hv2 0), (by simpa using World.var?_cell gn3 hv3 0), (by simpa using World.var?_cell gn4 hv4 0), (by simpa using World.var?_cell gn5 hv5 0), (by simpa using World.var?_cell gn6 hv6 0), ?_, ?_, ?_, ?_, ?_, ?_, ?_, ?_, ?_, ?_, ?_, ?_, ?_, ?_, ?_, ?_, ?_, ?_, ?_, ?_, ?_, ⟨c0, t0, hb0⟩, ⟨c1, t1, hb1⟩, ⟨c2, t2, hb2⟩, ⟨c3, t3, hb3⟩, ⟨c4, t4, hb4⟩, ⟨c5, t5, hb5⟩, ⟨c6, t6, hb6⟩⟩
  all_goals (rintro rfl; simp [MemPlace.row, List.nodup_append] at hnd)
theorem ga_of_laid {W : World} (h : laidMetH Tryd.prog laid W) : ∃ G, ExtTlvC.GW G W := by
  obtain ⟨a0, a1, a2, a3, a4, a5, a6, h0⟩ := ga_of_laid0 h
  exact ⟨⟨a3, a4, a5, a6⟩, ⟨a0, a1, a2, ⟨h0.et, h0.g0, h0.g1, h0.g2, h0.n01, h0.n02, h0.n12, h0.h0, h0.h1, h0.h2⟩⟩, ⟨h0.et, h0.g3, h0.g4, h0.g5, h0.g6, h0.n34, h0.n35, h0.n36, h0.n45, h0.n46, h0.n56, h0.h3, h0.h4, h0.h5, h0.h6⟩⟩
noncomputable def rowStart (os : Os) : World := World.doorLaid Tryd.prog 400 os
theorem rowStart_os (os : Os) : (rowStart os).os = os := rfl
theorem rowStart_shaped (os : Os) (args : Array Value) : ((rowStart os).forCall (fun _ _ => 0) ⟨#[], args, []⟩).Shaped Tryd.prog := World.shaped_of_RefB (by kernel_rfl) (by kernel_rfl)
theorem door_met (os : Os) (args : Array Value) : laidMetH Tryd.prog laid ((rowStart os).forCall (fun _ _ => 0) ⟨#[], args, []⟩).memory :=
  laidMetH_of_parts3 (fuel := 8) (laidMet_of_run' 8 (by kernel_rfl) (by kernel_rfl)) (by kernel_rfl) (by kernel_rfl)
theorem own : ownKnob Tryd.prog.godebug = none := by kernel_rfl
end TlvL
end Go.Proofs.YthnddhgkjkpmfaaDoor
/- Trees, plainly: what Decode, Whole and Encode answer has to do with one another. No program in sight. -/
namespace Go.Proofs.YthnddhgkjkpmfaaDoor
set_option linter.unusedSimpArgs false
set_option linter.unusedVariables false
namespace Tlv
open Go.RowKit Go.Proofs.YthnddhgkjkpmfaaDoorW.PrintWords Go.Proofs.YthnddhgkjkpmfaaDoor.PureB Go.Proofs.YthnddhgkjkpmfaaDoor.KTlv
theorem right_parts {x : Nd} (h : right x = true) : (pre 1 x).length ≤ 200 ∧ (pre 1 x).all okAt = true ∧ (laid x).size ≤ 4000 := by
  unfold right shaped at h
  simpa only [Bool.and_eq_true, decide_eq_true_eq, and_assoc] using h
theorem rd_err {s : ByteArray} : ∀ (f : Nat) (a n e d x a' n' : Int), rd s f a n e d = (.error x, a', n') → x ≠ 0 := by
  intro f
  induction f with
  | zero => intro a n e d x a' n' h; rw [rd] at h; simp only [Prod.mk.injEq, Except.error.injEq] at h; omega
  | succ f ih =>
    intro a n e d x a' n' h
    have hk : ∀ (t te d : Int) (k : Nat) (acc : List Nd) (a n x a' n' : Int), rdK (fun a n => rd s f a n te (d + 1)) t te k acc a n = (.error x, a', n') → x ≠ 0 := by
      intro t te d k
      induction k with
      | zero => intro acc a n x a' n' h; rw [rdK] at h; simp only [Prod.mk.injEq, Except.error.injEq] at h; omega
      | succ k ihk =>
        intro acc a n x a' n' h
        rw [rdK] at h
        split at h
        · cases hr : rd s f a n te (d + 1) with
          | mk r q =>
            obtain ⟨a1, n1⟩ := q
            rw [hr] at h
            cases r with
            | error y => simp only [Prod.mk.injEq, Except.error.injEq] at h; rw [← h.1]; exact ih _ _ _ _ _ _ _ hr
            | ok z => exact ihk _ _ _ _ _ _ h
        · cases h
    rw [rd] at h
    cases hh : hd s a n e d with
    | mk r a1 =>
      rw [hh] at h
      cases r with
      | error y =>
        simp only [Prod.mk.injEq, Except.error.injEq] at h
        rw [← h.1]
        unfold hd at hh
        split at hh
        · simp only [Prod.mk.injEq, Except.error.injEq] at hh; omega
        split at hh
        · simp only [Prod.mk.injEq, Except.error.injEq] at hh; omega
        split at hh
        · simp only [Prod.mk.injEq, Except.error.injEq] at hh; omega
        split at hh
        · rename_i h4; simp only [Prod.mk.injEq, Except.error.injEq] at hh; rw [← hh.1]; exact h4
        split at hh
        · simp only [Prod.mk.injEq, Except.error.injEq] at hh; omega
        · cases hh
      | ok q =>
        obtain ⟨t, te⟩ := q
        simp only at h
        split at h
        · exact hk _ _ _ _ _ _ _ _ _ _ h
        · cases h
theorem dec_ok {s : ByteArray} {a : Int} (h : (dec s a).2.2 = 0) : right (dec s a).1 = true ∧ a + ((laid (dec s a).1).size : Nat) ≤ (dec s a).2.1 ∧ a + 2 ≤ (dec s a).2.1 ∧ (dec s a).2.1 ≤ s.size ∧ 0 ≤ a := by
  unfold dec at h ⊢
  split at h
  · exact absurd h (by simp)
  rename_i ha
  rw [if_neg ha]
  cases hr : rd s 13 a 0 s.size 1 with
  | mk r q =>
    obtain ⟨a', n'⟩ := q
    rw [hr] at h
    cases r with
    | error x => exact absurd h (rd_err _ _ _ _ _ _ _ _ hr)
    | ok y =>
      simp only at h ⊢
      by_cases hy : right y = true
      · rw [if_pos hy]
        obtain ⟨g1, g2, g3, _⟩ := rd_ok 13 a 0 s.size 1 y a' n' (by omega) (Int.le_refl _) (Int.le_refl _) hr
        exact ⟨hy, g1, g2, g3, by omega⟩
      · rw [if_neg hy] at h
        exact absurd h (by simp)
theorem dec_no {s : ByteArray} {a : Int} (h : ¬ (dec s a).2.2 = 0) : (dec s a).1 = z ∧ (dec s a).2.1 = 0 := by
  unfold dec at h ⊢
  split
  · exact ⟨rfl, rfl⟩
  rename_i ha
  rw [if_neg ha] at h
  cases hr : rd s 13 a 0 s.size 1 with
  | mk r q =>
    obtain ⟨a', n'⟩ := q
    rw [hr] at h
    cases r with
    | error x => exact ⟨rfl, rfl⟩
    | ok y =>
      simp only at h ⊢
      by_cases hy : right y = true
      · rw [if_pos hy] at h; exact absurd rfl h
      · rw [if_neg hy]; exact ⟨rfl, rfl⟩
end Tlv
end Go.Proofs.YthnddhgkjkpmfaaDoor
-- Written by this repo's own program over the kit's printer: YthnddhgkjkpmfaaDoor.LTlvC
namespace Go.Proofs.YthnddhgkjkpmfaaDoor.LTlvC
open Go.Proofs.YthnddhgkjkpmfaaDoor.ExtTlvC
open Go.Proofs.YthnddhgkjkpmfaaDoor.KTlv
open Go.RowKit Go.Proofs.YthnddhgkjkpmfaaDoorW.PrintWords Go.Proofs.YthnddhgkjkpmfaaDoorW.PrintLast Go.Proofs.YthnddhgkjkpmfaaDoorW.PrintMore
attribute [local go_sem] max2_int min2_int max_two min_two max_three min_three max_four min_four   -- for this text's walks alone
attribute [local go_sem] some_set
set_option linter.unusedVariables false
set_option linter.unusedSimpArgs false
variable {G : Gl}
theorem info24 : (Tryd.prog.info? 24).map (fun i => (i.zero, i.size, i.bytes)) = some (some (.agg #[(.int .i64 0), (.string ⟨#[]⟩), (.slice none 0 0)]), 3, 48) := by kernel_rfl
end Go.Proofs.YthnddhgkjkpmfaaDoor.LTlvC
-- Written by this repo's own program over the kit's printer: YthnddhgkjkpmfaaDoor.LTlvC
namespace Go.Proofs.YthnddhgkjkpmfaaDoor.LTlvC
open Go.Proofs.YthnddhgkjkpmfaaDoor.ExtTlvC
open Go.Proofs.YthnddhgkjkpmfaaDoor.KTlv
open Go.RowKit Go.Proofs.YthnddhgkjkpmfaaDoorW.PrintWords Go.Proofs.YthnddhgkjkpmfaaDoorW.PrintLast Go.Proofs.YthnddhgkjkpmfaaDoorW.PrintMore
attribute [local go_sem] max2_int min2_int max_two min_two max_three min_three max_four min_four   -- for this text's walks alone
attribute [local go_sem] some_set
set_option linter.unusedVariables false
set_option linter.unusedSimpArgs false
variable {G : Gl}
def IsS74 (w0 W : World) (g : Nat) (f0 : ByteArray) (f1 : Int) (f2 : Int) : Prop := W.heap[g]? = some (.cells #[.string f0, .int .i64 f1, .int .i64 f2] 74 (0, 0)) ∧ w0.heap.size ≤ g
theorem IsS74.grown {w0 W : World} {g : Nat} {f0 : ByteArray} {f1 : Int} {f2 : Int} {W1 : World} {row : Option Nat} (h : IsS74 w0 W g f0 f1 f2) (hw : W.grownBy W1 row) (hne : some g ≠ row) : IsS74 w0 W1 g f0 f1 f2 := by
 obtain ⟨hb, hg⟩ := h
 exact ⟨blk_grown hb hw hne, hg⟩
theorem IsS74.below {w0 W : World} {g : Nat} {f0 : ByteArray} {f1 : Int} {f2 : Int} {W1 : World} (h : IsS74 w0 W g f0 f1 f2) (hw : Below W.heap.size W W1) : IsS74 w0 W1 g f0 f1 f2 := h.grown (grown_of_below hw none) (by simp)
theorem IsS74.drewN {w0 W : World} {g : Nat} {f0 : ByteArray} {f1 : Int} {f2 : Int} (h : IsS74 w0 W g f0 f1 f2) (m : Nat) : IsS74 w0 (W.drewN m) g f0 f1 f2 := h
theorem IsS74.drew {w0 W : World} {g : Nat} {f0 : ByteArray} {f1 : Int} {f2 : Int} (h : IsS74 w0 W g f0 f1 f2) : IsS74 w0 W.drew g f0 f1 f2 := h
theorem IsS74.apart {w0 W : World} {g : Nat} {f0 : ByteArray} {f1 : Int} {f2 : Int} {α : Type} {d : Kd α} {e : Nat} {base : Nat} {ok : Nat → Prop} {v : Value} {xs : List α} (h : IsS74 w0 W g f0 f1 f2) (ho : d.R e W base ok v xs) (ht : ∀ q, q ∈ e :: d.E → q ≠ 74) : d.R e W base (fun k => ok k ∧ k ≠ g) v xs := by
 obtain ⟨hb, hg⟩ := h
 exact Kd.R_types ho hb ht
theorem IsS74.own_ne {w0 W : World} {g : Nat} {f0 : ByteArray} {f1 : Int} {f2 : Int} {α : Type} {d : Kd α} {e : Nat} {base : Nat} {ok : Nat → Prop} {v : Value} {xs : List α} (h : IsS74 w0 W g f0 f1 f2) (ho : d.R e W base ok v xs) (ht : e ≠ 74) : some g ≠ v.ownBlock := by
 obtain ⟨hb, hg⟩ := h
 exact Kd.R_ne ho hb ht
theorem IsS74.lt {w0 W : World} {g : Nat} {f0 : ByteArray} {f1 : Int} {f2 : Int} (h : IsS74 w0 W g f0 f1 f2) : g < W.heap.size := by
 obtain ⟨hb, hg⟩ := h
 exact blk_lt hb
theorem IsS74.ge {w0 W : World} {g : Nat} {f0 : ByteArray} {f1 : Int} {f2 : Int} (h : IsS74 w0 W g f0 f1 f2) : w0.heap.size ≤ g := by
 obtain ⟨hb, hg⟩ := h
 exact hg
theorem IsS74.far {w0 W : World} {g : Nat} {f0 : ByteArray} {f1 : Int} {f2 : Int} {p : Addr} (h : IsS74 w0 W g f0 f1 f2) (hne : g ≠ p.block) (u : Value) : IsS74 w0 (W.setCell p u) g f0 f1 f2 := by
 obtain ⟨hb, hg⟩ := h
 exact ⟨blk_far hb hne u, hg⟩
theorem cellS74_0 {W : World} {g : Nat} {f0 : ByteArray} {f1 : Int} {f2 : Int} (h : W.heap[g]? = some (.cells #[.string f0, .int .i64 f1, .int .i64 f2] 74 (0, 0))) : W.cell? ⟨g, 0, none⟩ = some (.string f0) := (blk_cell h 0).trans rfl
theorem cellS74_1 {W : World} {g : Nat} {f0 : ByteArray} {f1 : Int} {f2 : Int} (h : W.heap[g]? = some (.cells #[.string f0, .int .i64 f1, .int .i64 f2] 74 (0, 0))) : W.cell? ⟨g, 1, none⟩ = some (.int .i64 f1) := (blk_cell h 1).trans rfl
theorem IsS74.set_1 {w0 W : World} {g : Nat} {f0 : ByteArray} {f1 : Int} {f2 : Int} (h : IsS74 w0 W g f0 f1 f2) (x : Int) : IsS74 w0 (W.setCell ⟨g, 1, none⟩ (.int .i64 x)) g f0 x f2 := by
 obtain ⟨hb, hg⟩ := h
 exact ⟨by simpa using blk_set hb 1 (.int .i64 x), hg⟩
theorem cellS74_2 {W : World} {g : Nat} {f0 : ByteArray} {f1 : Int} {f2 : Int} (h : W.heap[g]? = some (.cells #[.string f0, .int .i64 f1, .int .i64 f2] 74 (0, 0))) : W.cell? ⟨g, 2, none⟩ = some (.int .i64 f2) := (blk_cell h 2).trans rfl
theorem IsS74.set_2 {w0 W : World} {g : Nat} {f0 : ByteArray} {f1 : Int} {f2 : Int} (h : IsS74 w0 W g f0 f1 f2) (x : Int) : IsS74 w0 (W.setCell ⟨g, 2, none⟩ (.int .i64 x)) g f0 f1 x := by
 obtain ⟨hb, hg⟩ := h
 exact ⟨by simpa using blk_set hb 2 (.int .i64 x), hg⟩
def tlv_text_has.f (s0_0 : ByteArray) (s0_1 : Int) (s0_2 : Int) (a1 : Int) (a2 : Int) : Option (Bool × ByteArray × Int × Int) := some (decide (a1 ≤ (wrap64 (a2 - s0_1))), s0_0, s0_1, s0_2)
set_option maxHeartbeats 8000000 in
set_option maxRecDepth 100000 in
theorem tlv_text_has.calls (g : Nat) (s0_0 : ByteArray) (s0_1 : Int) (s0_2 : Int) (a1 : Int) (a2 : Int) (r1 : Bool) (r2 : ByteArray) (r3 : Int) (r4 : Int) (w0 w : World) (hI : IsS74 w0 w g s0_0 s0_1 s0_2) (hB : Below w0.heap.size w0 w) (h : tlv_text_has.f s0_0 s0_1 s0_2 a1 a2 = some (r1, r2, r3, r4)) :
  Calls Tryd.prog 69 #[.pointer (some ⟨g, 0, none⟩), .int .i64 a1, .int .i64 a2] w fun e w' => e = .returned (.bool r1) ∧ IsS74 w0 w' g r2 r3 r4 ∧ Below w0.heap.size w0 w' ∧ KeepBut w w' g none := by
 have HI0 := Aside0.mk hI
 have HK := Aside0.mk (KeepBut.refl w g none)
 have HL := Aside0.mk hB.size
 clear hI
 have HW0 := Aside0.mk hB.size
 have HB := Aside0.mk hB
 clear hB
 have H : (some (decide (a1 ≤ (wrap64 (a2 - s0_1))), s0_0, s0_1, s0_2)) = some (r1, r2, r3, r4) := h
 clear h
 simp only [Option.some.injEq, Prod.mk.injEq] at H
 obtain ⟨rfl, rfl, rfl, rfl⟩ := H
 obtain ⟨HGz4, hgz4⟩ := HI0.out
 have hcz4_0 := cellS74_0 HGz4
 have hcz4_1 := cellS74_1 HGz4
 have hcz4_2 := cellS74_2 HGz4
 have hfz4_0 := blk_frozen HGz4 0
 have hfz4_1 := blk_frozen HGz4 1
 have hfz4_2 := blk_frozen HGz4 2
 clear HGz4 hgz4
 go_enter Tryd.func69, Tryd.ntmps69
 go_wp2
 go_ret
 exact ⟨q2_, q7_, q5_, q1_⟩
end Go.Proofs.YthnddhgkjkpmfaaDoor.LTlvC
-- Written by this repo's own program over the kit's printer: YthnddhgkjkpmfaaDoor.LTlvC
namespace Go.Proofs.YthnddhgkjkpmfaaDoor.LTlvC
open Go.Proofs.YthnddhgkjkpmfaaDoor.ExtTlvC
open Go.Proofs.YthnddhgkjkpmfaaDoor.KTlv
open Go.RowKit Go.Proofs.YthnddhgkjkpmfaaDoorW.PrintWords Go.Proofs.YthnddhgkjkpmfaaDoorW.PrintLast Go.Proofs.YthnddhgkjkpmfaaDoorW.PrintMore
attribute [local go_sem] max2_int min2_int max_two min_two max_three min_three max_four min_four   -- for this text's walks alone
attribute [local go_sem] some_set
set_option linter.unusedVariables false
set_option linter.unusedSimpArgs false
variable {G : Gl}
def tlv_reader_head.f (s0_0 : ByteArray) (s0_1 : Int) (s0_2 : Int) (a1 : Int) (a2 : Int) : Option (Int × Int × Option Er × ByteArray × Int × Int) := if (wrap64 (s0_2 + 1)) > 200 then (some (0, 0, some (Er.node s0_1), s0_0, s0_1, wrap64 (s0_2 + 1))) else (if a2 > 12 then (some (0, 0, some (Er.node s0_1), s0_0, s0_1, wrap64 (s0_2 + 1))) else ((tlv_text_has.f s0_0 s0_1 (wrap64 (s0_2 + 1)) 1 a1).bind fun bt101 => (if bt101.1 = true then (if 0 ≤ bt101.2.2.1 then (if bt101.2.2.1 < (bt101.2.1.size : Int) then (if (Go.bits .and .i64 (wrap64 (bt bt101.2.1 bt101.2.2.1)) 31) = 31 then (some (0, 0, some (Er.tag bt101.2.2.1), bt101.2.1, bt101.2.2.1, bt101.2.2.2)) else (if 0 ≤ a1 then (if a1 ≤ (bt101.2.1.size : Int) then ((size_Decode.f (bt101.2.1.extract 0 (a1 : Int).toNat) (wrap64 (bt101.2.2.1 + 1))).bind fun bt105 => (if bt105.2.2 = 0 then ((tlv_text_has.f bt101.2.1 bt105.2.1 bt101.2.2.2 bt105.1 a1).bind fun bt108 => (if bt108.1 = true then (some (wrap64 (bt bt101.2.1 bt101.2.2.1), wrap64 (bt105.2.1 + bt105.1), none, bt108.2.1, bt108.2.2.1, bt108.2.2.2)) else (some (0, 0, some (Er.short bt108.2.2.1), bt108.2.1, bt108.2.2.1, bt108.2.2.2)))) else (some (0, 0, some (Er.len bt101.2.2.1 bt105.2.2), bt101.2.1, bt101.2.2.1, bt101.2.2.2)))) else (none)) else (none))) else (none)) else (none)) else (some (0, 0, some (Er.short bt101.2.2.1), bt101.2.1, bt101.2.2.1, bt101.2.2.2)))))
def tlv_reader_head.T5 : Bool × List (List Nat × List Nat) := (true, [([], []), ([0], [0]), ([1], [1]), ([2], [2]), ([3], [3]), ([], []), ([4, 5], [4, 5]), ([6], [6]), ([], []), ([8, 8], []), ([7, 9, 0, 1, 2, 3, 4, 5, 6, 7, 8, 9], [7])])
def tlv_reader_head.B5 : List Nat := [0, 1, 3, 7, 15, 0, 63, 127, 0, 256, 1023]
theorem tlv_reader_head.tab5 : rtab .any (opsOf Tryd.f59 5) = tlv_reader_head.T5 := by kernel_rfl
theorem tlv_reader_head.bits5 : waitsOk tlv_reader_head.T5.2 tlv_reader_head.B5 = true := by kernel_rfl
def tlv_reader_head.T6 : Bool × List (List Nat × List Nat) := (true, [([], []), ([0], [0]), ([1], [1]), ([2], [2]), ([3], [3]), ([], []), ([4, 5], [4, 5]), ([6], [6]), ([], []), ([8, 8], []), ([7, 9, 0, 1, 2, 3, 4, 5, 6, 7, 8, 9], [7])])
def tlv_reader_head.B6 : List Nat := [0, 1, 3, 7, 15, 0, 63, 127, 0, 256, 1023]
theorem tlv_reader_head.tab6 : rtab .any (opsOf Tryd.f59 6) = tlv_reader_head.T6 := by kernel_rfl
theorem tlv_reader_head.bits6 : waitsOk tlv_reader_head.T6.2 tlv_reader_head.B6 = true := by kernel_rfl
def tlv_reader_head.T7 : Bool × List (List Nat × List Nat) := (true, [([], []), ([0], [0]), ([1], [1]), ([2], [2]), ([3], [3]), ([], []), ([5], [5]), ([6], [6]), ([7], [7]), ([8], [8]), ([4, 9], [4, 9]), ([10], [10]), ([11, 0, 1, 2, 3, 4, 5, 6, 7, 8, 9, 10, 11], [11])])
def tlv_reader_head.B7 : List Nat := [0, 1, 3, 7, 15, 0, 32, 96, 224, 480, 1023, 2047, 4095]
theorem tlv_reader_head.tab7 : rtab .any (opsOf Tryd.f59 7) = tlv_reader_head.T7 := by kernel_rfl
theorem tlv_reader_head.bits7 : waitsOk tlv_reader_head.T7.2 tlv_reader_head.B7 = true := by kernel_rfl
def tlv_reader_head.T9 : Bool × List (List Nat × List Nat) := (true, [([], []), ([0], [0]), ([1], [1]), ([2], [2]), ([3], [3]), ([], []), ([4, 5], [4, 5]), ([6], [6]), ([], []), ([8, 8], []), ([7, 9, 0, 1, 2, 3, 4, 5, 6, 7, 8, 9], [7])])
def tlv_reader_head.B9 : List Nat := [0, 1, 3, 7, 15, 0, 63, 127, 0, 256, 1023]
theorem tlv_reader_head.tab9 : rtab .any (opsOf Tryd.f59 9) = tlv_reader_head.T9 := by kernel_rfl
theorem tlv_reader_head.bits9 : waitsOk tlv_reader_head.T9.2 tlv_reader_head.B9 = true := by kernel_rfl
def tlv_reader_head.T10 : Bool × List (List Nat × List Nat) := (true, [([], []), ([0], [0]), ([1], [1]), ([2], [2]), ([3], [3]), ([], []), ([4, 5], [4, 5]), ([], []), ([7], [7]), ([8], [8]), ([9], [9]), ([10], [10]), ([11], [11]), ([6, 12], [6, 12]), ([13], [13]), ([14], [14]), ([14], [14]), ([14], [14]), ([15, 13, 0, 1, 2, 3, 4, 5, 6, 7, 8, 9, 10, 11, 12, 13, 14, 15], [15]), ([16, 18, 0, 1, 2, 3, 4, 5, 6, 7, 8, 9, 10, 11, 12, 13, 14, 15, 16, 18], [16]), ([17, 19, 0, 1, 2, 3, 4, 5, 6, 7, 8, 9, 10, 11, 12, 13, 14, 15, 16, 17, 18, 19], [17])])
def tlv_reader_head.B10 : List Nat := [0, 1, 3, 7, 15, 0, 63, 0, 128, 384, 896, 1920, 3968, 8191, 16383, 32767, 32767, 32767, 65535, 393215, 1048575]
theorem tlv_reader_head.tab10 : rtab .any (opsOf Tryd.f59 10) = tlv_reader_head.T10 := by kernel_rfl
theorem tlv_reader_head.bits10 : waitsOk tlv_reader_head.T10.2 tlv_reader_head.B10 = true := by kernel_rfl
def tlv_reader_head.T12 : Bool × List (List Nat × List Nat) := (true, [([], []), ([0], [0]), ([1], [1]), ([2], [2]), ([3], [3]), ([], []), ([5], [5]), ([6], [6]), ([4, 7], [4, 7]), ([8], [8]), ([], []), ([10, 10], []), ([9, 11, 0, 1, 2, 3, 4, 5, 6, 7, 8, 9, 10, 11], [9])])
def tlv_reader_head.B12 : List Nat := [0, 1, 3, 7, 15, 0, 32, 96, 255, 511, 0, 1024, 4095]
theorem tlv_reader_head.tab12 : rtab .any (opsOf Tryd.f59 12) = tlv_reader_head.T12 := by kernel_rfl
theorem tlv_reader_head.bits12 : waitsOk tlv_reader_head.T12.2 tlv_reader_head.B12 = true := by kernel_rfl
def tlv_reader_head.T15 : Bool × List (List Nat × List Nat) := (true, [([], []), ([0], [0]), ([1], [1]), ([2], [2]), ([3], [3]), ([], []), ([4, 5], [4, 5]), ([6], [6]), ([], []), ([8, 8], []), ([7, 9, 0, 1, 2, 3, 4, 5, 6, 7, 8, 9], [7])])
def tlv_reader_head.B15 : List Nat := [0, 1, 3, 7, 15, 0, 63, 127, 0, 256, 1023]
theorem tlv_reader_head.tab15 : rtab .any (opsOf Tryd.f59 15) = tlv_reader_head.T15 := by kernel_rfl
theorem tlv_reader_head.bits15 : waitsOk tlv_reader_head.T15.2 tlv_reader_head.B15 = true := by kernel_rfl
set_option maxHeartbeats 8000000 in
set_option maxRecDepth 100000 in
theorem tlv_reader_head.calls (g : Nat) (s0_0 : ByteArray) (s0_1 : Int) (s0_2 : Int) (a1 : Int) (a2 : Int) (r1 : Int) (r2 : Int) (r3 : Option Er) (r4 : ByteArray) (r5 : Int) (r6 : Int) (w0 w : World) (hI : IsS74 w0 w g s0_0 s0_1 s0_2) (hB : Below w0.heap.size w0 w) (hG : GW G w0) (h : tlv_reader_head.f s0_0 s0_1 s0_2 a1 a2 = some (r1, r2, r3, r4, r5, r6)) :
  Calls Tryd.prog 59 #[.pointer (some ⟨g, 0, none⟩), .int .i64 a1, .int .i64 a2] w fun e w' => e = .returned (.tuple #[.int .i64 r1, .int .i64 r2, errW G r3]) ∧ IsS74 w0 w' g r4 r5 r6 ∧ Below w0.heap.size w0 w' ∧ KeepBut w w' g none := by
 have hu64 := Tryd.underlying64
 have hu49 := Tryd.underlying49
 have HI0 := Aside0.mk hI
 have HK := Aside0.mk (KeepBut.refl w g none)
 have HL := Aside0.mk hB.size
 clear hI
 have HW0 := Aside0.mk hB.size
 have HB := Aside0.mk hB
 clear hB
 have H : (if (wrap64 (s0_2 + 1)) > 200 then (some (0, 0, some (Er.node s0_1), s0_0, s0_1, wrap64 (s0_2 + 1))) else (if a2 > 12 then (some (0, 0, some (Er.node s0_1), s0_0, s0_1, wrap64 (s0_2 + 1))) else ((tlv_text_has.f s0_0 s0_1 (wrap64 (s0_2 + 1)) 1 a1).bind fun bt101 => (if bt101.1 = true then (if 0 ≤ bt101.2.2.1 then (if bt101.2.2.1 < (bt101.2.1.size : Int) then (if (Go.bits .and .i64 (wrap64 (bt bt101.2.1 bt101.2.2.1)) 31) = 31 then (some (0, 0, some (Er.tag bt101.2.2.1), bt101.2.1, bt101.2.2.1, bt101.2.2.2)) else (if 0 ≤ a1 then (if a1 ≤ (bt101.2.1.size : Int) then ((size_Decode.f (bt101.2.1.extract 0 (a1 : Int).toNat) (wrap64 (bt101.2.2.1 + 1))).bind fun bt105 => (if bt105.2.2 = 0 then ((tlv_text_has.f bt101.2.1 bt105.2.1 bt101.2.2.2 bt105.1 a1).bind fun bt108 => (if bt108.1 = true then (some (wrap64 (bt bt101.2.1 bt101.2.2.1), wrap64 (bt105.2.1 + bt105.1), none, bt108.2.1, bt108.2.2.1, bt108.2.2.2)) else (some (0, 0, some (Er.short bt108.2.2.1), bt108.2.1, bt108.2.2.1, bt108.2.2.2)))) else (some (0, 0, some (Er.len bt101.2.2.1 bt105.2.2), bt101.2.1, bt101.2.2.1, bt101.2.2.2)))) else (none)) else (none))) else (none)) else (none)) else (some (0, 0, some (Er.short bt101.2.2.1), bt101.2.1, bt101.2.2.1, bt101.2.2.2)))))) = some (r1, r2, r3, r4, r5, r6) := h
 clear h
 by_cases c4 : (wrap64 (s0_2 + 1)) > 200
 ·rw [if_pos c4] at H
  have c4b0 : decide (200 < (wrap64 (s0_2 + 1))) = true := decide_eq_true c4
  clear c4
  simp only [Option.some.injEq, Prod.mk.injEq] at H
  obtain ⟨rfl, rfl, rfl, rfl, rfl, rfl⟩ := H
  obtain ⟨HGz5, hgz5⟩ := HI0.out
  have hcz5_0 := cellS74_0 HGz5
  have hcz5_1 := cellS74_1 HGz5
  have hcz5_2 := cellS74_2 HGz5
  have hfz5_0 := blk_frozen HGz5 0
  have hfz5_1 := blk_frozen HGz5 1
  have hfz5_2 := blk_frozen HGz5 2
  clear HGz5 hgz5
  go_enter Tryd.func59, Tryd.ntmps59
  try go_wp2
  have n0_ : Aside0 (IsS74 w0 (w.setCell ⟨g, 2, none⟩ (.int .i64 (wrap64 (s0_2 + 1)))) g s0_0 s0_1 (wrap64 (s0_2 + 1))) := ⟨q7_⟩
  have n1_ : Aside0 (KeepBut w (w.setCell ⟨g, 2, none⟩ (.int .i64 (wrap64 (s0_2 + 1)))) g none) := ⟨q1_⟩
  have n2_ : Aside0 (Below w0.heap.size w0 (w.setCell ⟨g, 2, none⟩ (.int .i64 (wrap64 (s0_2 + 1))))) := ⟨q5_⟩
  (try clear HI0)
  (try clear HK)
  (try clear HB)
  generalize (w.setCell ⟨g, 2, none⟩ (.int .i64 (wrap64 (s0_2 + 1)))) = w6 at n0_ n1_ n2_ ⊢
  have HI0 := n0_
  have HK := n1_
  have HB := n2_
  clear n0_ n1_ n2_
  have n0_ := Aside0.mk (IsS74.drew HI0.out)
  have n1_ := Aside0.mk (keep_drew HK.out)
  have n2_ := Aside0.mk (below_drew1 HB.out)
  clear HI0
  clear HK
  clear HB
  have HI0 := n0_
  have HK := n1_
  have HB := n2_
  clear n0_ n1_ n2_
  refine start_ (n := 11) (S := fun w' => w'.cell? ⟨g, 0, none⟩ = some (.string s0_0) ∧ w'.cell? ⟨g, 1, none⟩ = some (.int .i64 s0_1) ∧ w'.cell? ⟨g, 2, none⟩ = some (.int .i64 (wrap64 (s0_2 + 1))) ∧ w'.cell? ⟨0, 0, none⟩ = some (GC0 G)) (ds := []) #[false, false, false, false, false, false, false, false, false, false, false] (by kernel_rfl) rfl rfl ⟨(cellS74_0 HI0.out.1), (cellS74_1 HI0.out.1), (cellS74_2 HI0.out.1), (GW.c0 (GW.below hG q5_))⟩ (fun hHeld => ?_); refine with_tabW tlv_reader_head.tab5 tlv_reader_head.bits5 (fun HT_ HW_ => ?_)
  generalize w6.drew = w7 at HI0 HK HB hHeld ⊢
  refine p_ 0 (some 36) ?_
  refine p_ 1 (some 37) ?_
  refine p_ 2 (some 38) ?_
  refine p_ 3 (some 39) ?_
  refine p_ 8 (some 6) ?_
  refine p_ 9 (some 7) ?_
  refine t1_ 4 (some 40) ?_
  refine t1_ 5 (some 41) ?_
  refine p_ 6 (some 42) ?_
  refine p_ 7 (some 43) ?_
  refine p_ 10 (some 8) ?_
  refine done_ (done_of HT_.out (by kernel_rfl)) ?_
  try go_wp2
  go_ret3
  exact ⟨q2_, q7_, q5_, q1_⟩
 ·rw [if_neg c4] at H
  have c4b0 : decide (200 < (wrap64 (s0_2 + 1))) = false := decide_eq_false c4
  clear c4
  by_cases c8 : a2 > 12
  ·rw [if_pos c8] at H
   have c8b0 : decide (12 < a2) = true := decide_eq_true c8
   clear c8
   simp only [Option.some.injEq, Prod.mk.injEq] at H
   obtain ⟨rfl, rfl, rfl, rfl, rfl, rfl⟩ := H
   obtain ⟨HGz9, hgz9⟩ := HI0.out
   have hcz9_0 := cellS74_0 HGz9
   have hcz9_1 := cellS74_1 HGz9
   have hcz9_2 := cellS74_2 HGz9
   have hfz9_0 := blk_frozen HGz9 0
   have hfz9_1 := blk_frozen HGz9 1
   have hfz9_2 := blk_frozen HGz9 2
   clear HGz9 hgz9
   go_enter Tryd.func59, Tryd.ntmps59
   try go_wp2
   have n0_ : Aside0 (IsS74 w0 (w.setCell ⟨g, 2, none⟩ (.int .i64 (wrap64 (s0_2 + 1)))) g s0_0 s0_1 (wrap64 (s0_2 + 1))) := ⟨q7_⟩
   have n1_ : Aside0 (KeepBut w (w.setCell ⟨g, 2, none⟩ (.int .i64 (wrap64 (s0_2 + 1)))) g none) := ⟨q1_⟩
   have n2_ : Aside0 (Below w0.heap.size w0 (w.setCell ⟨g, 2, none⟩ (.int .i64 (wrap64 (s0_2 + 1))))) := ⟨q5_⟩
   (try clear HI0)
   (try clear HK)
   (try clear HB)
   generalize (w.setCell ⟨g, 2, none⟩ (.int .i64 (wrap64 (s0_2 + 1)))) = w10 at n0_ n1_ n2_ ⊢
   have HI0 := n0_
   have HK := n1_
   have HB := n2_
   clear n0_ n1_ n2_
   have n0_ := Aside0.mk (IsS74.drew HI0.out)
   have n1_ := Aside0.mk (keep_drew HK.out)
   have n2_ := Aside0.mk (below_drew1 HB.out)
   clear HI0
   clear HK
   clear HB
   have HI0 := n0_
   have HK := n1_
   have HB := n2_
   clear n0_ n1_ n2_
   refine start_ (n := 11) (S := fun w' => w'.cell? ⟨g, 0, none⟩ = some (.string s0_0) ∧ w'.cell? ⟨g, 1, none⟩ = some (.int .i64 s0_1) ∧ w'.cell? ⟨g, 2, none⟩ = some (.int .i64 (wrap64 (s0_2 + 1))) ∧ w'.cell? ⟨0, 0, none⟩ = some (GC0 G)) (ds := []) #[false, false, false, false, false, false, false, false, false, false, false] (by kernel_rfl) rfl rfl ⟨(cellS74_0 HI0.out.1), (cellS74_1 HI0.out.1), (cellS74_2 HI0.out.1), (GW.c0 (GW.below hG q5_))⟩ (fun hHeld => ?_); refine with_tabW tlv_reader_head.tab5 tlv_reader_head.bits5 (fun HT_ HW_ => ?_)
   generalize w10.drew = w11 at HI0 HK HB hHeld ⊢
   refine p_ 0 (some 36) ?_
   refine p_ 1 (some 37) ?_
   refine p_ 2 (some 38) ?_
   refine p_ 3 (some 39) ?_
   refine p_ 8 (some 6) ?_
   refine p_ 9 (some 7) ?_
   refine t1_ 4 (some 40) ?_
   refine t1_ 5 (some 41) ?_
   refine p_ 6 (some 42) ?_
   refine p_ 7 (some 43) ?_
   refine p_ 10 (some 8) ?_
   refine done_ (done_of HT_.out (by kernel_rfl)) ?_
   try go_wp2
   go_ret3
   exact ⟨q2_, q7_, q5_, q1_⟩
  ·rw [if_neg c8] at H
   have c8b0 : decide (12 < a2) = false := decide_eq_false c8
   clear c8
   replace H := Option.bind_eq_some_iff.mp H
   obtain ⟨⟨t101, t102, t103, t104⟩, A120, H⟩ := H
   replace H : (if t101 = true then (if 0 ≤ t103 then (if t103 < (t102.size : Int) then (if (Go.bits .and .i64 (wrap64 (bt t102 t103)) 31) = 31 then (some (0, 0, some (Er.tag t103), t102, t103, t104)) else (if 0 ≤ a1 then (if a1 ≤ (t102.size : Int) then ((size_Decode.f (t102.extract 0 (a1 : Int).toNat) (wrap64 (t103 + 1))).bind fun bt105 => (if bt105.2.2 = 0 then ((tlv_text_has.f t102 bt105.2.1 t104 bt105.1 a1).bind fun bt108 => (if bt108.1 = true then (some (wrap64 (bt t102 t103), wrap64 (bt105.2.1 + bt105.1), none, bt108.2.1, bt108.2.2.1, bt108.2.2.2)) else (some (0, 0, some (Er.short bt108.2.2.1), bt108.2.1, bt108.2.2.1, bt108.2.2.2)))) else (some (0, 0, some (Er.len t103 bt105.2.2), t102, t103, t104)))) else (none)) else (none))) else (none)) else (none)) else (some (0, 0, some (Er.short t103), t102, t103, t104))) = some (r1, r2, r3, r4, r5, r6) := H
   have A12 := Aside0.mk A120
   clear A120
   by_cases c13 : t101 = true
   ·subst c13
    have H1 : (if 0 ≤ t103 then (if t103 < (t102.size : Int) then (if (Go.bits .and .i64 (wrap64 (bt t102 t103)) 31) = 31 then (some (0, 0, some (Er.tag t103), t102, t103, t104)) else (if 0 ≤ a1 then (if a1 ≤ (t102.size : Int) then ((size_Decode.f (t102.extract 0 (a1 : Int).toNat) (wrap64 (t103 + 1))).bind fun bt105 => (if bt105.2.2 = 0 then ((tlv_text_has.f t102 bt105.2.1 t104 bt105.1 a1).bind fun bt108 => (if bt108.1 = true then (some (wrap64 (bt t102 t103), wrap64 (bt105.2.1 + bt105.1), none, bt108.2.1, bt108.2.2.1, bt108.2.2.2)) else (some (0, 0, some (Er.short bt108.2.2.1), bt108.2.1, bt108.2.2.1, bt108.2.2.2)))) else (some (0, 0, some (Er.len t103 bt105.2.2), t102, t103, t104)))) else (none)) else (none))) else (none)) else (none)) = some (r1, r2, r3, r4, r5, r6) := by rw [if_pos rfl] at H; exact H
    clear H
    have H := H1
    clear H1
    by_cases c14 : 0 ≤ t103
    ·rw [if_pos c14] at H
     have c14b0 : decide (0 ≤ t103) = true := decide_eq_true c14
     clear c14
     by_cases c15 : t103 < (t102.size : Int)
     ·rw [if_pos c15] at H
      have c15b0 : decide (t103 < (t102.size : Int)) = true := decide_eq_true c15
      clear c15
      by_cases c17 : (Go.bits .and .i64 (wrap64 (bt t102 t103)) 31) = 31
      ·rw [if_pos c17] at H
       have c17b0 : ((Go.bits .and .i64 (wrap64 (bt t102 t103)) 31) == 31) = true := beq_iff_eq.mpr c17
       have c17b1 : ((Go.bits .and .i64 (wrap64 (bt t102 t103)) 31) != 31) = false := bne_eq_false_iff_eq.mpr c17
       clear c17
       simp only [Option.some.injEq, Prod.mk.injEq] at H
       obtain ⟨rfl, rfl, rfl, rfl, rfl, rfl⟩ := H
       obtain ⟨HGz18, hgz18⟩ := HI0.out
       have hcz18_0 := cellS74_0 HGz18
       have hcz18_1 := cellS74_1 HGz18
       have hcz18_2 := cellS74_2 HGz18
       have hfz18_0 := blk_frozen HGz18 0
       have hfz18_1 := blk_frozen HGz18 1
       have hfz18_2 := blk_frozen HGz18 2
       clear HGz18 hgz18
       go_enter Tryd.func59, Tryd.ntmps59
       try go_wp2_with (first | ((with_reducible refine gate_callee (f := 69) rfl ?_); refine goesL_ (some 34) rfl rfl Tryd.func69 (by kernel_rfl) rfl #[.pointer (some ⟨g, 0, none⟩), .int .i64 1, .int .i64 a1] rfl argq ?_; (with_reducible refine (tlv_text_has.calls g s0_0 s0_1 (wrap64 (s0_2 + 1)) 1 a1 true t102 t103 t104 w0 _ ?side1 ?side2 A12.out).mono ?_); (case side1 => repeat (first | (with_reducible first | exact HI0.out | apply IsS74.alloc | apply IsS74.drewN | apply IsS74.drew | apply IsS74.set_0 | apply IsS74.set_1 | apply IsS74.set_2) | exact HI0.out)); (case side2 => repeat (first | (with_reducible first | exact HB.out | apply below_alloc | apply pw_below_drewN | apply below_drew1 | refine below_set ?_ (IsS74.ge HI0.out)) | exact HB.out)); rintro e w19 ⟨rfl, hi, hb, hk⟩; refine ⟨_, rfl, ?_⟩; have n0_ := Aside0.mk (KeepBut.trans q1_ hk (.inl rfl)); have n1_ := Aside0.mk (hb); have n2_ := Aside0.mk (hi); clear HK; clear HB; clear HI0; have HK := n0_; have HB := n1_; have HI0 := n2_; clear n0_ n1_ n2_; (try clear hb); (try clear hb2); (try clear hk); (try clear hi)))
       have n0_ := Aside0.mk (IsS74.drew HI0.out)
       have n1_ := Aside0.mk (keep_drew HK.out)
       have n2_ := Aside0.mk (below_drew1 HB.out)
       clear HI0
       clear HK
       clear HB
       have HI0 := n0_
       have HK := n1_
       have HB := n2_
       clear n0_ n1_ n2_
       have p16 : 0 ≤ (t103 : Int) := of_decide_eq_true q4_
       have q16 : t103 < (t102.size : Int) := of_decide_eq_true q4_
       have hx16 := bt_at t102 t103
       replace p16 := eq_true p16
       replace q16 := eq_true q16
       refine start_ (n := 13) (S := fun w' => w'.cell? ⟨g, 0, none⟩ = some (.string t102) ∧ w'.cell? ⟨g, 1, none⟩ = some (.int .i64 t103) ∧ w'.cell? ⟨g, 2, none⟩ = some (.int .i64 t104)) (ds := []) #[false, false, false, false, false, false, false, false, false, false, false, false, false] (by kernel_rfl) rfl rfl ⟨(cellS74_0 HI0.out.1), (cellS74_1 HI0.out.1), (cellS74_2 HI0.out.1)⟩ (fun hHeld => ?_); refine with_tabW tlv_reader_head.tab7 tlv_reader_head.bits7 (fun HT_ HW_ => ?_)
       generalize w19.drew = w20 at HI0 HK HB hHeld ⊢
       refine p_ 0 (some 52) ?_
       refine p_ 1 (some 53) ?_
       refine p_ 2 (some 54) ?_
       refine p_ 3 (some 55) ?_
       refine p_ 5 (some 57) ?_
       refine p_ 6 (some 58) ?_
       refine p_ 7 (some 59) ?_
       refine p_ 8 (some 60) ?_
       refine t0_ 4 (some 56) ?_
       refine t0_ 9 (some 61) ?_
       refine t0_ 10 (some 62) ?_
       refine p_ 11 (some 63) ?_
       refine p_ 12 (some 9) ?_
       refine done_ (done_of HT_.out (by kernel_rfl)) ?_
       try go_wp2
       have n0_ := Aside0.mk (IsS74.drew HI0.out)
       have n1_ := Aside0.mk (keep_drew HK.out)
       have n2_ := Aside0.mk (below_drew1 HB.out)
       clear HI0
       clear HK
       clear HB
       have HI0 := n0_
       have HK := n1_
       have HB := n2_
       clear n0_ n1_ n2_
       refine start_ (n := 11) (S := fun w' => w'.cell? ⟨g, 0, none⟩ = some (.string t102) ∧ w'.cell? ⟨g, 1, none⟩ = some (.int .i64 t103) ∧ w'.cell? ⟨g, 2, none⟩ = some (.int .i64 t104) ∧ w'.cell? ⟨3, 0, none⟩ = some (GC3 G)) (ds := []) #[false, false, false, false, false, false, false, false, false, false, false] (by kernel_rfl) rfl rfl ⟨(cellS74_0 HI0.out.1), (cellS74_1 HI0.out.1), (cellS74_2 HI0.out.1), (GW.c3 (GW.below hG q5_))⟩ (fun hHeld => ?_); refine with_tabW tlv_reader_head.tab9 tlv_reader_head.bits9 (fun HT_ HW_ => ?_)
       generalize w20.drew = w21 at HI0 HK HB hHeld ⊢
       refine p_ 0 (some 67) ?_
       refine p_ 1 (some 68) ?_
       refine p_ 2 (some 69) ?_
       refine p_ 3 (some 70) ?_
       refine p_ 8 (some 6) ?_
       refine p_ 9 (some 7) ?_
       refine t1_ 4 (some 71) ?_
       refine t1_ 5 (some 72) ?_
       refine p_ 6 (some 73) ?_
       refine p_ 7 (some 74) ?_
       refine p_ 10 (some 8) ?_
       refine done_ (done_of HT_.out (by kernel_rfl)) ?_
       try go_wp2
       go_ret3
       exact ⟨q2_, q7_, q5_, q1_⟩
      ·rw [if_neg c17] at H
       have c17b0 : ((Go.bits .and .i64 (wrap64 (bt t102 t103)) 31) == 31) = false := beq_eq_false_iff_ne.mpr c17
       have c17b1 : ((Go.bits .and .i64 (wrap64 (bt t102 t103)) 31) != 31) = true := bne_iff_ne.mpr c17
       by_cases c22 : 0 ≤ a1
       ·rw [if_pos c22] at H
        have c22b0 := eq_true c22
        have c22b1 : decide (0 ≤ a1) = true := decide_eq_true c22
        clear c22
        by_cases c23 : a1 ≤ (t102.size : Int)
        ·rw [if_pos c23] at H
         have c23b0 := eq_true c23
         have c23b1 : decide (a1 ≤ (t102.size : Int)) = true := decide_eq_true c23
         clear c23
         replace H := Option.bind_eq_some_iff.mp H
         obtain ⟨⟨t105, t106, t107⟩, A240, H⟩ := H
         replace H : (if t107 = 0 then ((tlv_text_has.f t102 t106 t104 t105 a1).bind fun bt108 => (if bt108.1 = true then (some (wrap64 (bt t102 t103), wrap64 (t106 + t105), none, bt108.2.1, bt108.2.2.1, bt108.2.2.2)) else (some (0, 0, some (Er.short bt108.2.2.1), bt108.2.1, bt108.2.2.1, bt108.2.2.2)))) else (some (0, 0, some (Er.len t103 t107), t102, t103, t104))) = some (r1, r2, r3, r4, r5, r6) := H
         have A24 := Aside0.mk A240
         clear A240
         by_cases c25 : t107 = 0
         ·rw [if_pos c25] at H
          have c25b0 : (t107 == 0) = true := beq_iff_eq.mpr c25
          have c25b1 : (t107 != 0) = false := bne_eq_false_iff_eq.mpr c25
          clear c25
          replace H := Option.bind_eq_some_iff.mp H
          obtain ⟨⟨t108, t109, t110, t111⟩, A260, H⟩ := H
          replace H : (if t108 = true then (some (wrap64 (bt t102 t103), wrap64 (t106 + t105), none, t109, t110, t111)) else (some (0, 0, some (Er.short t110), t109, t110, t111))) = some (r1, r2, r3, r4, r5, r6) := H
          have A26 := Aside0.mk A260
          clear A260
          by_cases c27 : t108 = true
          ·subst c27
           have H1 : (some (wrap64 (bt t102 t103), wrap64 (t106 + t105), none, t109, t110, t111)) = some (r1, r2, r3, r4, r5, r6) := by rw [if_pos rfl] at H; exact H
           clear H
           have H := H1
           clear H1
           simp only [Option.some.injEq, Prod.mk.injEq] at H
           obtain ⟨rfl, rfl, rfl, rfl, rfl, rfl⟩ := H
           obtain ⟨HGz28, hgz28⟩ := HI0.out
           have hcz28_0 := cellS74_0 HGz28
           have hcz28_1 := cellS74_1 HGz28
           have hcz28_2 := cellS74_2 HGz28
           have hfz28_0 := blk_frozen HGz28 0
           have hfz28_1 := blk_frozen HGz28 1
           have hfz28_2 := blk_frozen HGz28 2
           clear HGz28 hgz28
           go_enter Tryd.func59, Tryd.ntmps59
           try go_wp2_with (first | ((with_reducible refine gate_callee (f := 69) rfl ?_); refine goesL_ (some 34) rfl rfl Tryd.func69 (by kernel_rfl) rfl #[.pointer (some ⟨g, 0, none⟩), .int .i64 1, .int .i64 a1] rfl argq ?_; (with_reducible refine (tlv_text_has.calls g s0_0 s0_1 (wrap64 (s0_2 + 1)) 1 a1 true t102 t103 t104 w0 _ ?side1 ?side2 A12.out).mono ?_); (case side1 => repeat (first | (with_reducible first | exact HI0.out | apply IsS74.alloc | apply IsS74.drewN | apply IsS74.drew | apply IsS74.set_0 | apply IsS74.set_1 | apply IsS74.set_2) | exact HI0.out)); (case side2 => repeat (first | (with_reducible first | exact HB.out | apply below_alloc | apply pw_below_drewN | apply below_drew1 | refine below_set ?_ (IsS74.ge HI0.out)) | exact HB.out)); rintro e w29 ⟨rfl, hi, hb, hk⟩; refine ⟨_, rfl, ?_⟩; have n0_ := Aside0.mk (KeepBut.trans q1_ hk (.inl rfl)); have n1_ := Aside0.mk (hb); have n2_ := Aside0.mk (hi); clear HK; clear HB; clear HI0; have HK := n0_; have HB := n1_; have HI0 := n2_; clear n0_ n1_ n2_; (try clear hb); (try clear hb2); (try clear hk); (try clear hi)))
           have n0_ := Aside0.mk (IsS74.drew HI0.out)
           have n1_ := Aside0.mk (keep_drew HK.out)
           have n2_ := Aside0.mk (below_drew1 HB.out)
           clear HI0
           clear HK
           clear HB
           have HI0 := n0_
           have HK := n1_
           have HB := n2_
           clear n0_ n1_ n2_
           have p16 : 0 ≤ (t103 : Int) := of_decide_eq_true q4_
           have q16 : t103 < (t102.size : Int) := of_decide_eq_true q4_
           have hx16 := bt_at t102 t103
           replace p16 := eq_true p16
           replace q16 := eq_true q16
           refine start_ (n := 13) (S := fun w' => w'.cell? ⟨g, 0, none⟩ = some (.string t102) ∧ w'.cell? ⟨g, 1, none⟩ = some (.int .i64 t103) ∧ w'.cell? ⟨g, 2, none⟩ = some (.int .i64 t104)) (ds := []) #[false, false, false, false, false, false, false, false, false, false, false, false, false] (by kernel_rfl) rfl rfl ⟨(cellS74_0 HI0.out.1), (cellS74_1 HI0.out.1), (cellS74_2 HI0.out.1)⟩ (fun hHeld => ?_); refine with_tabW tlv_reader_head.tab7 tlv_reader_head.bits7 (fun HT_ HW_ => ?_)
           generalize w29.drew = w30 at HI0 HK HB hHeld ⊢
           refine p_ 0 (some 52) ?_
           refine p_ 1 (some 53) ?_
           refine p_ 2 (some 54) ?_
           refine p_ 3 (some 55) ?_
           refine p_ 5 (some 57) ?_
           refine p_ 6 (some 58) ?_
           refine p_ 7 (some 59) ?_
           refine p_ 8 (some 60) ?_
           refine t0_ 4 (some 56) ?_
           refine t0_ 9 (some 61) ?_
           refine t0_ 10 (some 62) ?_
           refine p_ 11 (some 63) ?_
           refine p_ 12 (some 9) ?_
           refine done_ (done_of HT_.out (by kernel_rfl)) ?_
           try go_wp2
           have n0_ := Aside0.mk (IsS74.drew HI0.out)
           have n1_ := Aside0.mk (keep_drew HK.out)
           have n2_ := Aside0.mk (below_drew1 HB.out)
           clear HI0
           clear HK
           clear HB
           have HI0 := n0_
           have HK := n1_
           have HB := n2_
           clear n0_ n1_ n2_
           refine start_ (n := 21) (S := fun w' => w'.cell? ⟨g, 0, none⟩ = some (.string t102) ∧ w'.cell? ⟨g, 1, none⟩ = some (.int .i64 t103) ∧ w'.cell? ⟨g, 2, none⟩ = some (.int .i64 t104)) (ds := []) #[false, false, false, false, false, false, false, false, false, false, false, false, false, false, false, false, false, false, false, false, false] (by kernel_rfl) rfl rfl ⟨(cellS74_0 HI0.out.1), (cellS74_1 HI0.out.1), (cellS74_2 HI0.out.1)⟩ (fun hHeld => ?_); refine with_tabW tlv_reader_head.tab10 tlv_reader_head.bits10 (fun HT_ HW_ => ?_)
           generalize w30.drew = w31 at HI0 HK HB hHeld ⊢
           refine p_ 0 (some 76) ?_
           refine p_ 1 (some 77) ?_
           refine p_ 2 (some 78) ?_
           refine p_ 3 (some 79) ?_
           refine p_ 5 (some 81) ?_
           refine p_ 7 (some 83) ?_
           refine p_ 8 (some 84) ?_
           refine p_ 9 (some 85) ?_
           refine p_ 10 (some 86) ?_
           refine t0_ 4 (some 80) ?_
           refine p_ 6 (some 82) ?_
           refine t0_ 11 (some 87) ?_
           refine p_ 12 (some 88) ?_
           refine one_ (i := 13) (N := some 89) #[true, true, true, true, true, true, true, true, true, true, true, true, true, true, false, false, false, false, false, false, false] rfl rfl (one_of HT_.out (by kernel_rfl)) (by decide) (fun K hK => ?_)
           refine goes_ Tryd.func70 (by kernel_rfl) rfl #[.string (t102.extract 0 (a1 : Int).toNat), .int .i64 (wrap64 (t103 + 1))] (by rfl) rfl rfl argq ?_
           with_reducible refine (size_Decode.calls (G := G) (t102.extract 0 (a1 : Int).toNat) (wrap64 (t103 + 1)) t105 t106 t107 _ ?side1 A24.out).mono ?_
           (case side1 => first | exact hG | exact GW.below hG q5_)
           rintro e w32 ⟨rfl, hb⟩
           refine ⟨_, rfl, ?_⟩
           have n0_ := Aside0.mk (IsS74.below q7_ hb)
           have n1_ := Aside0.mk (KeepBut.trans q1_ (KeepBut.of_below hb g none) (.inl rfl))
           have n2_ := Aside0.mk (below_step q5_ hb)
           clear HI0
           clear HK
           clear HB
           have HI0 := n0_
           have HK := n1_
           have HB := n2_
           clear n0_ n1_ n2_
           (try clear hb)
           (try clear hb2)
           (try clear hk)
           (try clear hi)
           refine hK.out _ _ ⟨(cellS74_0 HI0.out.1), (cellS74_1 HI0.out.1), (cellS74_2 HI0.out.1)⟩ (fun hHeld => ?_)
           clear hK K
           refine norm_ (a' := ?_) ?_ ?_
           rotate_left
           ·show Act.put _ (some 89) _ = _
            exact putq
           refine p_ 14 (some 75) ?_
           refine p_ 15 (some 90) ?_
           refine p_ 16 (some 91) ?_
           refine p_ 17 (some 92) ?_
           refine p_ 18 (some 10) ?_
           refine p_ 19 (some 11) ?_
           refine p_ 20 (some 12) ?_
           refine done_ (done_of HT_.out (by kernel_rfl)) ?_
           obtain ⟨HGz33, hgz33⟩ := HI0.out
           have hcz33_0 := cellS74_0 HGz33
           have hcz33_1 := cellS74_1 HGz33
           have hcz33_2 := cellS74_2 HGz33
           have hfz33_0 := blk_frozen HGz33 0
           have hfz33_1 := blk_frozen HGz33 1
           have hfz33_2 := blk_frozen HGz33 2
           clear HGz33 hgz33
           try go_wp2_with (first | ((with_reducible refine gate_callee (f := 69) rfl ?_); refine goesL_ (some 115) rfl rfl Tryd.func69 (by kernel_rfl) rfl #[.pointer (some ⟨g, 0, none⟩), .int .i64 t105, .int .i64 a1] rfl argq ?_; (with_reducible refine (tlv_text_has.calls g t102 t106 t104 t105 a1 true t109 t110 t111 w0 _ ?side1 ?side2 A26.out).mono ?_); (case side1 => repeat (first | (with_reducible first | exact HI0.out | apply IsS74.alloc | apply IsS74.drewN | apply IsS74.drew | apply IsS74.set_0 | apply IsS74.set_1 | apply IsS74.set_2) | exact HI0.out)); (case side2 => repeat (first | (with_reducible first | exact HB.out | apply below_alloc | apply pw_below_drewN | apply below_drew1 | refine below_set ?_ (IsS74.ge HI0.out)) | exact HB.out)); rintro e w34 ⟨rfl, hi, hb, hk⟩; refine ⟨_, rfl, ?_⟩; have n0_ := Aside0.mk (KeepBut.trans q1_ hk (.inl rfl)); have n1_ := Aside0.mk (hb); have n2_ := Aside0.mk (hi); clear HK; clear HB; clear HI0; have HK := n0_; have HB := n1_; have HI0 := n2_; clear n0_ n1_ n2_; (try clear hb); (try clear hb2); (try clear hk); (try clear hi)))
           go_ret3
           exact ⟨q2_, q7_, q5_, q1_⟩
          ·replace c27 := Bool.eq_false_iff.mpr c27
           subst c27
           have H1 : (some (0, 0, some (Er.short t110), t109, t110, t111)) = some (r1, r2, r3, r4, r5, r6) := by rw [if_neg (show ¬ (false = true) by decide)] at H; exact H
           clear H
           have H := H1
           clear H1
           simp only [Option.some.injEq, Prod.mk.injEq] at H
           obtain ⟨rfl, rfl, rfl, rfl, rfl, rfl⟩ := H
           obtain ⟨HGz35, hgz35⟩ := HI0.out
           have hcz35_0 := cellS74_0 HGz35
           have hcz35_1 := cellS74_1 HGz35
           have hcz35_2 := cellS74_2 HGz35
           have hfz35_0 := blk_frozen HGz35 0
           have hfz35_1 := blk_frozen HGz35 1
           have hfz35_2 := blk_frozen HGz35 2
           clear HGz35 hgz35
           go_enter Tryd.func59, Tryd.ntmps59
           try go_wp2_with (first | ((with_reducible refine gate_callee (f := 69) rfl ?_); refine goesL_ (some 34) rfl rfl Tryd.func69 (by kernel_rfl) rfl #[.pointer (some ⟨g, 0, none⟩), .int .i64 1, .int .i64 a1] rfl argq ?_; (with_reducible refine (tlv_text_has.calls g s0_0 s0_1 (wrap64 (s0_2 + 1)) 1 a1 true t102 t103 t104 w0 _ ?side1 ?side2 A12.out).mono ?_); (case side1 => repeat (first | (with_reducible first | exact HI0.out | apply IsS74.alloc | apply IsS74.drewN | apply IsS74.drew | apply IsS74.set_0 | apply IsS74.set_1 | apply IsS74.set_2) | exact HI0.out)); (case side2 => repeat (first | (with_reducible first | exact HB.out | apply below_alloc | apply pw_below_drewN | apply below_drew1 | refine below_set ?_ (IsS74.ge HI0.out)) | exact HB.out)); rintro e w36 ⟨rfl, hi, hb, hk⟩; refine ⟨_, rfl, ?_⟩; have n0_ := Aside0.mk (KeepBut.trans q1_ hk (.inl rfl)); have n1_ := Aside0.mk (hb); have n2_ := Aside0.mk (hi); clear HK; clear HB; clear HI0; have HK := n0_; have HB := n1_; have HI0 := n2_; clear n0_ n1_ n2_; (try clear hb); (try clear hb2); (try clear hk); (try clear hi)))
           have n0_ := Aside0.mk (IsS74.drew HI0.out)
           have n1_ := Aside0.mk (keep_drew HK.out)
           have n2_ := Aside0.mk (below_drew1 HB.out)
           clear HI0
           clear HK
           clear HB
           have HI0 := n0_
           have HK := n1_
           have HB := n2_
           clear n0_ n1_ n2_
           have p16 : 0 ≤ (t103 : Int) := of_decide_eq_true q4_
           have q16 : t103 < (t102.size : Int) := of_decide_eq_true q4_
           have hx16 := bt_at t102 t103
           replace p16 := eq_true p16
           replace q16 := eq_true q16
           refine start_ (n := 13) (S := fun w' => w'.cell? ⟨g, 0, none⟩ = some (.string t102) ∧ w'.cell? ⟨g, 1, none⟩ = some (.int .i64 t103) ∧ w'.cell? ⟨g, 2, none⟩ = some (.int .i64 t104)) (ds := []) #[false, false, false, false, false, false, false, false, false, false, false, false, false] (by kernel_rfl) rfl rfl ⟨(cellS74_0 HI0.out.1), (cellS74_1 HI0.out.1), (cellS74_2 HI0.out.1)⟩ (fun hHeld => ?_); refine with_tabW tlv_reader_head.tab7 tlv_reader_head.bits7 (fun HT_ HW_ => ?_)
           generalize w36.drew = w37 at HI0 HK HB hHeld ⊢
           refine p_ 0 (some 52) ?_
           refine p_ 1 (some 53) ?_
           refine p_ 2 (some 54) ?_
           refine p_ 3 (some 55) ?_
           refine p_ 5 (some 57) ?_
           refine p_ 6 (some 58) ?_
           refine p_ 7 (some 59) ?_
           refine p_ 8 (some 60) ?_
           refine t0_ 4 (some 56) ?_
           refine t0_ 9 (some 61) ?_
           refine t0_ 10 (some 62) ?_
           refine p_ 11 (some 63) ?_
           refine p_ 12 (some 9) ?_
           refine done_ (done_of HT_.out (by kernel_rfl)) ?_
           try go_wp2
           have n0_ := Aside0.mk (IsS74.drew HI0.out)
           have n1_ := Aside0.mk (keep_drew HK.out)
           have n2_ := Aside0.mk (below_drew1 HB.out)
           clear HI0
           clear HK
           clear HB
           have HI0 := n0_
           have HK := n1_
           have HB := n2_
           clear n0_ n1_ n2_
           refine start_ (n := 21) (S := fun w' => w'.cell? ⟨g, 0, none⟩ = some (.string t102) ∧ w'.cell? ⟨g, 1, none⟩ = some (.int .i64 t103) ∧ w'.cell? ⟨g, 2, none⟩ = some (.int .i64 t104)) (ds := []) #[false, false, false, false, false, false, false, false, false, false, false, false, false, false, false, false, false, false, false, false, false] (by kernel_rfl) rfl rfl ⟨(cellS74_0 HI0.out.1), (cellS74_1 HI0.out.1), (cellS74_2 HI0.out.1)⟩ (fun hHeld => ?_); refine with_tabW tlv_reader_head.tab10 tlv_reader_head.bits10 (fun HT_ HW_ => ?_)
           generalize w37.drew = w38 at HI0 HK HB hHeld ⊢
           refine p_ 0 (some 76) ?_
           refine p_ 1 (some 77) ?_
           refine p_ 2 (some 78) ?_
           refine p_ 3 (some 79) ?_
           refine p_ 5 (some 81) ?_
           refine p_ 7 (some 83) ?_
           refine p_ 8 (some 84) ?_
           refine p_ 9 (some 85) ?_
           refine p_ 10 (some 86) ?_
           refine t0_ 4 (some 80) ?_
           refine p_ 6 (some 82) ?_
           refine t0_ 11 (some 87) ?_
           refine p_ 12 (some 88) ?_
           refine one_ (i := 13) (N := some 89) #[true, true, true, true, true, true, true, true, true, true, true, true, true, true, false, false, false, false, false, false, false] rfl rfl (one_of HT_.out (by kernel_rfl)) (by decide) (fun K hK => ?_)
           refine goes_ Tryd.func70 (by kernel_rfl) rfl #[.string (t102.extract 0 (a1 : Int).toNat), .int .i64 (wrap64 (t103 + 1))] (by rfl) rfl rfl argq ?_
           with_reducible refine (size_Decode.calls (G := G) (t102.extract 0 (a1 : Int).toNat) (wrap64 (t103 + 1)) t105 t106 t107 _ ?side1 A24.out).mono ?_
           (case side1 => first | exact hG | exact GW.below hG q5_)
           rintro e w39 ⟨rfl, hb⟩
           refine ⟨_, rfl, ?_⟩
           have n0_ := Aside0.mk (IsS74.below q7_ hb)
           have n1_ := Aside0.mk (KeepBut.trans q1_ (KeepBut.of_below hb g none) (.inl rfl))
           have n2_ := Aside0.mk (below_step q5_ hb)
           clear HI0
           clear HK
           clear HB
           have HI0 := n0_
           have HK := n1_
           have HB := n2_
           clear n0_ n1_ n2_
           (try clear hb)
           (try clear hb2)
           (try clear hk)
           (try clear hi)
           refine hK.out _ _ ⟨(cellS74_0 HI0.out.1), (cellS74_1 HI0.out.1), (cellS74_2 HI0.out.1)⟩ (fun hHeld => ?_)
           clear hK K
           refine norm_ (a' := ?_) ?_ ?_
           rotate_left
           ·show Act.put _ (some 89) _ = _
            exact putq
           refine p_ 14 (some 75) ?_
           refine p_ 15 (some 90) ?_
           refine p_ 16 (some 91) ?_
           refine p_ 17 (some 92) ?_
           refine p_ 18 (some 10) ?_
           refine p_ 19 (some 11) ?_
           refine p_ 20 (some 12) ?_
           refine done_ (done_of HT_.out (by kernel_rfl)) ?_
           obtain ⟨HGz40, hgz40⟩ := HI0.out
           have hcz40_0 := cellS74_0 HGz40
           have hcz40_1 := cellS74_1 HGz40
           have hcz40_2 := cellS74_2 HGz40
           have hfz40_0 := blk_frozen HGz40 0
           have hfz40_1 := blk_frozen HGz40 1
           have hfz40_2 := blk_frozen HGz40 2
           clear HGz40 hgz40
           try go_wp2_with (first | ((with_reducible refine gate_callee (f := 69) rfl ?_); refine goesL_ (some 115) rfl rfl Tryd.func69 (by kernel_rfl) rfl #[.pointer (some ⟨g, 0, none⟩), .int .i64 t105, .int .i64 a1] rfl argq ?_; (with_reducible refine (tlv_text_has.calls g t102 t106 t104 t105 a1 false t109 t110 t111 w0 _ ?side1 ?side2 A26.out).mono ?_); (case side1 => repeat (first | (with_reducible first | exact HI0.out | apply IsS74.alloc | apply IsS74.drewN | apply IsS74.drew | apply IsS74.set_0 | apply IsS74.set_1 | apply IsS74.set_2) | exact HI0.out)); (case side2 => repeat (first | (with_reducible first | exact HB.out | apply below_alloc | apply pw_below_drewN | apply below_drew1 | refine below_set ?_ (IsS74.ge HI0.out)) | exact HB.out)); rintro e w41 ⟨rfl, hi, hb, hk⟩; refine ⟨_, rfl, ?_⟩; have n0_ := Aside0.mk (KeepBut.trans q1_ hk (.inl rfl)); have n1_ := Aside0.mk (hb); have n2_ := Aside0.mk (hi); clear HK; clear HB; clear HI0; have HK := n0_; have HB := n1_; have HI0 := n2_; clear n0_ n1_ n2_; (try clear hb); (try clear hb2); (try clear hk); (try clear hi)))
           have n0_ := Aside0.mk (IsS74.drew HI0.out)
           have n1_ := Aside0.mk (keep_drew HK.out)
           have n2_ := Aside0.mk (below_drew1 HB.out)
           clear HI0
           clear HK
           clear HB
           have HI0 := n0_
           have HK := n1_
           have HB := n2_
           clear n0_ n1_ n2_
           refine start_ (n := 11) (S := fun w' => w'.cell? ⟨g, 0, none⟩ = some (.string t109) ∧ w'.cell? ⟨g, 1, none⟩ = some (.int .i64 t110) ∧ w'.cell? ⟨g, 2, none⟩ = some (.int .i64 t111) ∧ w'.cell? ⟨2, 0, none⟩ = some (GC2 G)) (ds := []) #[false, false, false, false, false, false, false, false, false, false, false] (by kernel_rfl) rfl rfl ⟨(cellS74_0 HI0.out.1), (cellS74_1 HI0.out.1), (cellS74_2 HI0.out.1), (GW.c2 (GW.below hG q5_))⟩ (fun hHeld => ?_); refine with_tabW tlv_reader_head.tab15 tlv_reader_head.bits15 (fun HT_ HW_ => ?_)
           generalize w41.drew = w42 at HI0 HK HB hHeld ⊢
           refine p_ 0 (some 117) ?_
           refine p_ 1 (some 118) ?_
           refine p_ 2 (some 119) ?_
           refine p_ 3 (some 120) ?_
           refine p_ 8 (some 6) ?_
           refine p_ 9 (some 7) ?_
           refine t1_ 4 (some 121) ?_
           refine t1_ 5 (some 122) ?_
           refine p_ 6 (some 123) ?_
           refine p_ 7 (some 124) ?_
           refine p_ 10 (some 8) ?_
           refine done_ (done_of HT_.out (by kernel_rfl)) ?_
           try go_wp2
           go_ret3
           exact ⟨q2_, q7_, q5_, q1_⟩
         ·rw [if_neg c25] at H
          have c25b0 : (t107 == 0) = false := beq_eq_false_iff_ne.mpr c25
          have c25b1 : (t107 != 0) = true := bne_iff_ne.mpr c25
          simp only [Option.some.injEq, Prod.mk.injEq] at H
          obtain ⟨rfl, rfl, rfl, rfl, rfl, rfl⟩ := H
          obtain ⟨HGz43, hgz43⟩ := HI0.out
          have hcz43_0 := cellS74_0 HGz43
          have hcz43_1 := cellS74_1 HGz43
          have hcz43_2 := cellS74_2 HGz43
          have hfz43_0 := blk_frozen HGz43 0
          have hfz43_1 := blk_frozen HGz43 1
          have hfz43_2 := blk_frozen HGz43 2
          clear HGz43 hgz43
          go_enter Tryd.func59, Tryd.ntmps59
          try go_wp2_with (first | ((with_reducible refine gate_callee (f := 69) rfl ?_); refine goesL_ (some 34) rfl rfl Tryd.func69 (by kernel_rfl) rfl #[.pointer (some ⟨g, 0, none⟩), .int .i64 1, .int .i64 a1] rfl argq ?_; (with_reducible refine (tlv_text_has.calls g s0_0 s0_1 (wrap64 (s0_2 + 1)) 1 a1 true t102 t103 t104 w0 _ ?side1 ?side2 A12.out).mono ?_); (case side1 => repeat (first | (with_reducible first | exact HI0.out | apply IsS74.alloc | apply IsS74.drewN | apply IsS74.drew | apply IsS74.set_0 | apply IsS74.set_1 | apply IsS74.set_2) | exact HI0.out)); (case side2 => repeat (first | (with_reducible first | exact HB.out | apply below_alloc | apply pw_below_drewN | apply below_drew1 | refine below_set ?_ (IsS74.ge HI0.out)) | exact HB.out)); rintro e w44 ⟨rfl, hi, hb, hk⟩; refine ⟨_, rfl, ?_⟩; have n0_ := Aside0.mk (KeepBut.trans q1_ hk (.inl rfl)); have n1_ := Aside0.mk (hb); have n2_ := Aside0.mk (hi); clear HK; clear HB; clear HI0; have HK := n0_; have HB := n1_; have HI0 := n2_; clear n0_ n1_ n2_; (try clear hb); (try clear hb2); (try clear hk); (try clear hi)))
          have n0_ := Aside0.mk (IsS74.drew HI0.out)
          have n1_ := Aside0.mk (keep_drew HK.out)
          have n2_ := Aside0.mk (below_drew1 HB.out)
          clear HI0
          clear HK
          clear HB
          have HI0 := n0_
          have HK := n1_
          have HB := n2_
          clear n0_ n1_ n2_
          have p16 : 0 ≤ (t103 : Int) := of_decide_eq_true q4_
          have q16 : t103 < (t102.size : Int) := of_decide_eq_true q4_
          have hx16 := bt_at t102 t103
          replace p16 := eq_true p16
          replace q16 := eq_true q16
          refine start_ (n := 13) (S := fun w' => w'.cell? ⟨g, 0, none⟩ = some (.string t102) ∧ w'.cell? ⟨g, 1, none⟩ = some (.int .i64 t103) ∧ w'.cell? ⟨g, 2, none⟩ = some (.int .i64 t104)) (ds := []) #[false, false, false, false, false, false, false, false, false, false, false, false, false] (by kernel_rfl) rfl rfl ⟨(cellS74_0 HI0.out.1), (cellS74_1 HI0.out.1), (cellS74_2 HI0.out.1)⟩ (fun hHeld => ?_); refine with_tabW tlv_reader_head.tab7 tlv_reader_head.bits7 (fun HT_ HW_ => ?_)
          generalize w44.drew = w45 at HI0 HK HB hHeld ⊢
          refine p_ 0 (some 52) ?_
          refine p_ 1 (some 53) ?_
          refine p_ 2 (some 54) ?_
          refine p_ 3 (some 55) ?_
          refine p_ 5 (some 57) ?_
          refine p_ 6 (some 58) ?_
          refine p_ 7 (some 59) ?_
          refine p_ 8 (some 60) ?_
          refine t0_ 4 (some 56) ?_
          refine t0_ 9 (some 61) ?_
          refine t0_ 10 (some 62) ?_
          refine p_ 11 (some 63) ?_
          refine p_ 12 (some 9) ?_
          refine done_ (done_of HT_.out (by kernel_rfl)) ?_
          try go_wp2
          have n0_ := Aside0.mk (IsS74.drew HI0.out)
          have n1_ := Aside0.mk (keep_drew HK.out)
          have n2_ := Aside0.mk (below_drew1 HB.out)
          clear HI0
          clear HK
          clear HB
          have HI0 := n0_
          have HK := n1_
          have HB := n2_
          clear n0_ n1_ n2_
          refine start_ (n := 21) (S := fun w' => w'.cell? ⟨g, 0, none⟩ = some (.string t102) ∧ w'.cell? ⟨g, 1, none⟩ = some (.int .i64 t103) ∧ w'.cell? ⟨g, 2, none⟩ = some (.int .i64 t104)) (ds := []) #[false, false, false, false, false, false, false, false, false, false, false, false, false, false, false, false, false, false, false, false, false] (by kernel_rfl) rfl rfl ⟨(cellS74_0 HI0.out.1), (cellS74_1 HI0.out.1), (cellS74_2 HI0.out.1)⟩ (fun hHeld => ?_); refine with_tabW tlv_reader_head.tab10 tlv_reader_head.bits10 (fun HT_ HW_ => ?_)
          generalize w45.drew = w46 at HI0 HK HB hHeld ⊢
          refine p_ 0 (some 76) ?_
          refine p_ 1 (some 77) ?_
          refine p_ 2 (some 78) ?_
          refine p_ 3 (some 79) ?_
          refine p_ 5 (some 81) ?_
          refine p_ 7 (some 83) ?_
          refine p_ 8 (some 84) ?_
          refine p_ 9 (some 85) ?_
          refine p_ 10 (some 86) ?_
          refine t0_ 4 (some 80) ?_
          refine p_ 6 (some 82) ?_
          refine t0_ 11 (some 87) ?_
          refine p_ 12 (some 88) ?_
          refine one_ (i := 13) (N := some 89) #[true, true, true, true, true, true, true, true, true, true, true, true, true, true, false, false, false, false, false, false, false] rfl rfl (one_of HT_.out (by kernel_rfl)) (by decide) (fun K hK => ?_)
          refine goes_ Tryd.func70 (by kernel_rfl) rfl #[.string (t102.extract 0 (a1 : Int).toNat), .int .i64 (wrap64 (t103 + 1))] (by rfl) rfl rfl argq ?_
          with_reducible refine (size_Decode.calls (G := G) (t102.extract 0 (a1 : Int).toNat) (wrap64 (t103 + 1)) t105 t106 t107 _ ?side1 A24.out).mono ?_
          (case side1 => first | exact hG | exact GW.below hG q5_)
          rintro e w47 ⟨rfl, hb⟩
          refine ⟨_, rfl, ?_⟩
          have n0_ := Aside0.mk (IsS74.below q7_ hb)
          have n1_ := Aside0.mk (KeepBut.trans q1_ (KeepBut.of_below hb g none) (.inl rfl))
          have n2_ := Aside0.mk (below_step q5_ hb)
          clear HI0
          clear HK
          clear HB
          have HI0 := n0_
          have HK := n1_
          have HB := n2_
          clear n0_ n1_ n2_
          (try clear hb)
          (try clear hb2)
          (try clear hk)
          (try clear hi)
          refine hK.out _ _ ⟨(cellS74_0 HI0.out.1), (cellS74_1 HI0.out.1), (cellS74_2 HI0.out.1)⟩ (fun hHeld => ?_)
          clear hK K
          refine norm_ (a' := ?_) ?_ ?_
          rotate_left
          ·show Act.put _ (some 89) _ = _
           exact putq
          refine p_ 14 (some 75) ?_
          refine p_ 15 (some 90) ?_
          refine p_ 16 (some 91) ?_
          refine p_ 17 (some 92) ?_
          refine p_ 18 (some 10) ?_
          refine p_ 19 (some 11) ?_
          refine p_ 20 (some 12) ?_
          refine done_ (done_of HT_.out (by kernel_rfl)) ?_
          try go_wp2
          have n0_ := Aside0.mk (IsS74.drew HI0.out)
          have n1_ := Aside0.mk (keep_drew HK.out)
          have n2_ := Aside0.mk (below_drew1 HB.out)
          clear HI0
          clear HK
          clear HB
          have HI0 := n0_
          have HK := n1_
          have HB := n2_
          clear n0_ n1_ n2_
          refine start_ (n := 13) (S := fun w' => w'.cell? ⟨g, 0, none⟩ = some (.string t102) ∧ w'.cell? ⟨g, 1, none⟩ = some (.int .i64 t103) ∧ w'.cell? ⟨g, 2, none⟩ = some (.int .i64 t104)) (ds := []) #[false, false, false, false, false, false, false, false, false, false, false, false, false] (by kernel_rfl) rfl rfl ⟨(cellS74_0 HI0.out.1), (cellS74_1 HI0.out.1), (cellS74_2 HI0.out.1)⟩ (fun hHeld => ?_); refine with_tabW tlv_reader_head.tab12 tlv_reader_head.bits12 (fun HT_ HW_ => ?_)
          generalize w47.drew = w48 at HI0 HK HB hHeld ⊢
          refine p_ 0 (some 95) ?_
          refine p_ 1 (some 96) ?_
          refine p_ 2 (some 97) ?_
          refine p_ 3 (some 98) ?_
          refine p_ 5 (some 100) ?_
          refine p_ 6 (some 101) ?_
          refine p_ 7 (some 102) ?_
          refine p_ 10 (some 6) ?_
          refine p_ 11 (some 7) ?_
          refine t0_ 4 (some 99) ?_
          refine p_ 8 (some 103) ?_
          refine p_ 9 (some 104) ?_
          refine p_ 12 (some 8) ?_
          refine done_ (done_of HT_.out (by kernel_rfl)) ?_
          try go_wp2
          go_ret3
          exact ⟨q2_, q7_, q5_, q1_⟩
        ·rw [if_neg c23] at H
         exact absurd H (by simp)
       ·rw [if_neg c22] at H
        exact absurd H (by simp)
     ·rw [if_neg c15] at H
      exact absurd H (by simp)
    ·rw [if_neg c14] at H
     exact absurd H (by simp)
   ·replace c13 := Bool.eq_false_iff.mpr c13
    subst c13
    have H1 : (some (0, 0, some (Er.short t103), t102, t103, t104)) = some (r1, r2, r3, r4, r5, r6) := by rw [if_neg (show ¬ (false = true) by decide)] at H; exact H
    clear H
    have H := H1
    clear H1
    simp only [Option.some.injEq, Prod.mk.injEq] at H
    obtain ⟨rfl, rfl, rfl, rfl, rfl, rfl⟩ := H
    obtain ⟨HGz49, hgz49⟩ := HI0.out
    have hcz49_0 := cellS74_0 HGz49
    have hcz49_1 := cellS74_1 HGz49
    have hcz49_2 := cellS74_2 HGz49
    have hfz49_0 := blk_frozen HGz49 0
    have hfz49_1 := blk_frozen HGz49 1
    have hfz49_2 := blk_frozen HGz49 2
    clear HGz49 hgz49
    go_enter Tryd.func59, Tryd.ntmps59
    try go_wp2_with (first | ((with_reducible refine gate_callee (f := 69) rfl ?_); refine goesL_ (some 34) rfl rfl Tryd.func69 (by kernel_rfl) rfl #[.pointer (some ⟨g, 0, none⟩), .int .i64 1, .int .i64 a1] rfl argq ?_; (with_reducible refine (tlv_text_has.calls g s0_0 s0_1 (wrap64 (s0_2 + 1)) 1 a1 false t102 t103 t104 w0 _ ?side1 ?side2 A12.out).mono ?_); (case side1 => repeat (first | (with_reducible first | exact HI0.out | apply IsS74.alloc | apply IsS74.drewN | apply IsS74.drew | apply IsS74.set_0 | apply IsS74.set_1 | apply IsS74.set_2) | exact HI0.out)); (case side2 => repeat (first | (with_reducible first | exact HB.out | apply below_alloc | apply pw_below_drewN | apply below_drew1 | refine below_set ?_ (IsS74.ge HI0.out)) | exact HB.out)); rintro e w50 ⟨rfl, hi, hb, hk⟩; refine ⟨_, rfl, ?_⟩; have n0_ := Aside0.mk (KeepBut.trans q1_ hk (.inl rfl)); have n1_ := Aside0.mk (hb); have n2_ := Aside0.mk (hi); clear HK; clear HB; clear HI0; have HK := n0_; have HB := n1_; have HI0 := n2_; clear n0_ n1_ n2_; (try clear hb); (try clear hb2); (try clear hk); (try clear hi)))
    have n0_ := Aside0.mk (IsS74.drew HI0.out)
    have n1_ := Aside0.mk (keep_drew HK.out)
    have n2_ := Aside0.mk (below_drew1 HB.out)
    clear HI0
    clear HK
    clear HB
    have HI0 := n0_
    have HK := n1_
    have HB := n2_
    clear n0_ n1_ n2_
    refine start_ (n := 11) (S := fun w' => w'.cell? ⟨g, 0, none⟩ = some (.string t102) ∧ w'.cell? ⟨g, 1, none⟩ = some (.int .i64 t103) ∧ w'.cell? ⟨g, 2, none⟩ = some (.int .i64 t104) ∧ w'.cell? ⟨2, 0, none⟩ = some (GC2 G)) (ds := []) #[false, false, false, false, false, false, false, false, false, false, false] (by kernel_rfl) rfl rfl ⟨(cellS74_0 HI0.out.1), (cellS74_1 HI0.out.1), (cellS74_2 HI0.out.1), (GW.c2 (GW.below hG q5_))⟩ (fun hHeld => ?_); refine with_tabW tlv_reader_head.tab6 tlv_reader_head.bits6 (fun HT_ HW_ => ?_)
    generalize w50.drew = w51 at HI0 HK HB hHeld ⊢
    refine p_ 0 (some 44) ?_
    refine p_ 1 (some 45) ?_
    refine p_ 2 (some 46) ?_
    refine p_ 3 (some 47) ?_
    refine p_ 8 (some 6) ?_
    refine p_ 9 (some 7) ?_
    refine t1_ 4 (some 48) ?_
    refine t1_ 5 (some 49) ?_
    refine p_ 6 (some 50) ?_
    refine p_ 7 (some 51) ?_
    refine p_ 10 (some 8) ?_
    refine done_ (done_of HT_.out (by kernel_rfl)) ?_
    try go_wp2
    go_ret3
    exact ⟨q2_, q7_, q5_, q1_⟩
end Go.Proofs.YthnddhgkjkpmfaaDoor.LTlvC
-- Written by this repo's own program over the kit's printer: YthnddhgkjkpmfaaDoor.LTlvC
namespace Go.Proofs.YthnddhgkjkpmfaaDoor.LTlvC
open Go.Proofs.YthnddhgkjkpmfaaDoor.ExtTlvC
open Go.Proofs.YthnddhgkjkpmfaaDoor.KTlv
open Go.RowKit Go.Proofs.YthnddhgkjkpmfaaDoorW.PrintWords Go.Proofs.YthnddhgkjkpmfaaDoorW.PrintLast Go.Proofs.YthnddhgkjkpmfaaDoorW.PrintMore
attribute [local go_sem] max2_int min2_int max_two min_two max_three min_three max_four min_four   -- for this text's walks alone
attribute [local go_sem] some_set
set_option linter.unusedVariables false
set_option linter.unusedSimpArgs false
variable {G : Gl}
def tlv_Right.f (a0_0 : Int) (a0_1 : ByteArray) (l0_2 : List (S24)) : Option (Bool) := (tlv_isShaped.f a0_0 a0_1 l0_2).bind fun t113 => (if t113 = true then ((tlv_laid.f a0_0 a0_1 l0_2).bind fun t114 => (some (decide ((t114.size : Int) ≤ 4000)))) else (some false))
set_option maxHeartbeats 8000000 in
set_option maxRecDepth 100000 in
theorem tlv_Right.calls (a0_0 : Int) (a0_1 : ByteArray) (A0_2 : Option Addr) (c0_2 : Nat) (l0_2 : List (S24)) (r : Bool) (w : World) (hr0_2 : Kd.C k24 w A0_2 l0_2.length l0_2) (hc0_2 : l0_2.length ≤ c0_2) (hG : GW G w) (h : tlv_Right.f a0_0 a0_1 l0_2 = some r) :
  Calls Tryd.prog 21 #[.agg #[.int .i64 a0_0, .string a0_1, .slice A0_2 l0_2.length c0_2]] w fun e w' => e = .returned (.bool r) ∧ Below w.heap.size w w' := by
 have hu24 := Tryd.underlying24
 have HR0_2 := Aside0.mk hr0_2
 have HC0_2 := Aside0.mk hc0_2
 clear hr0_2 hc0_2
 have HB := Aside0.mk (Below.refl w.heap.size w)
 have H : ((tlv_isShaped.f a0_0 a0_1 l0_2).bind fun t113 => (if t113 = true then ((tlv_laid.f a0_0 a0_1 l0_2).bind fun t114 => (some (decide ((t114.size : Int) ≤ 4000)))) else (some false))) = some r := h
 clear h
 replace H := Option.bind_eq_some_iff.mp H
 obtain ⟨t113, A20, H⟩ := H
 replace H : (if t113 = true then ((tlv_laid.f a0_0 a0_1 l0_2).bind fun t114 => (some (decide ((t114.size : Int) ≤ 4000)))) else (some false)) = some r := H
 have A2 := Aside0.mk A20
 clear A20
 by_cases c3 : t113 = true
 ·subst c3
  have H1 : ((tlv_laid.f a0_0 a0_1 l0_2).bind fun t114 => (some (decide ((t114.size : Int) ≤ 4000)))) = some r := by rw [if_pos rfl] at H; exact H
  clear H
  have H := H1
  clear H1
  replace H := Option.bind_eq_some_iff.mp H
  obtain ⟨t114, A40, H⟩ := H
  replace H : (some (decide ((t114.size : Int) ≤ 4000))) = some r := H
  have A4 := Aside0.mk A40
  clear A40
  obtain rfl := Option.some.inj H
  go_enter Tryd.func21, Tryd.ntmps21
  go_wp2_with (first | ((with_reducible refine gate_dst (N := 1) rfl ?_); (try (refine gate_guard (by rfl) ?_; dsimp only)); refine box_event ?hg (N := 1) ?hd (cs := #[.int .i64 a0_0, .string a0_1, .slice A0_2 l0_2.length c0_2]) (t := 24) ?hr ?_; (case hd => rfl); (case hg => rfl); (case hr => first | (go_simp; done) | (go_simp; rfl)); intro gb112 hg w5 hbox hb; have n0_ := Aside0.mk (below_step q0_ hb); have n1_ := Aside0.mk (hbox); have n2_ := Aside0.mk ((by rw [hg]; exact (below_size q0_) : w.heap.size ≤ gb112)); have n3_ := Aside0.mk ((by rw [hg]; exact (below_size q0_) : w.heap.size ≤ gb112)); clear HB; have HB := n0_; have BK112 := n1_; have GW112 := n2_; have GE112 := n3_; clear n0_ n1_ n2_ n3_; clear hb hbox hg; have hcz6_0 : w5.cell? ⟨gb112, 0, none⟩ = some (.int .i64 a0_0) := (blk_cell BK112.out 0).trans rfl; have hcz6_1 : w5.cell? ⟨gb112, 1, none⟩ = some (.string a0_1) := (blk_cell BK112.out 1).trans rfl; have hcz6_2 : w5.cell? ⟨gb112, 2, none⟩ = some (.slice A0_2 l0_2.length c0_2) := (blk_cell BK112.out 2).trans rfl; have hfz6_0 := blk_frozen BK112.out 0; have hfz6_1 := blk_frozen BK112.out 1; have hfz6_2 := blk_frozen BK112.out 2) | ((with_reducible refine gate_callee (f := 34) rfl ?_); refine goesL_ (some 4) rfl rfl Tryd.func34 (by kernel_rfl) rfl #[.agg #[.int .i64 a0_0, .string a0_1, .slice A0_2 l0_2.length c0_2]] rfl argq ?_; (with_reducible refine (tlv_isShaped.calls a0_0 a0_1 _ _ l0_2 true _ ?side1 ?side2 A2.out).mono ?_); (case side1 => repeat (first | exact (Kd.C_below HR0_2.out HB.out) | (with_reducible refine Kd.C_alloc ?_ _) | (with_reducible refine Kd.C_drewN ?_ _) | (with_reducible refine Kd.C_drew ?_))); (case side2 => exact HC0_2.out); rintro e w7 ⟨rfl, hb⟩; refine ⟨_, rfl, ?_⟩; have n0_ := Aside0.mk (blk_below (g := gb112) (o := .cells #[.int .i64 a0_0, .string a0_1, .slice A0_2 l0_2.length c0_2] 24 (0, 0)) (bkq BK112.out) hb); have n1_ := Aside0.mk (below_step q0_ hb); clear BK112; clear HB; have BK112 := n0_; have HB := n1_; clear n0_ n1_; (try clear hb); (try clear hb2); (try clear hk); (try clear hi); have hcz8_0 : w7.cell? ⟨gb112, 0, none⟩ = some (.int .i64 a0_0) := (blk_cell BK112.out 0).trans rfl; have hcz8_1 : w7.cell? ⟨gb112, 1, none⟩ = some (.string a0_1) := (blk_cell BK112.out 1).trans rfl; have hcz8_2 : w7.cell? ⟨gb112, 2, none⟩ = some (.slice A0_2 l0_2.length c0_2) := (blk_cell BK112.out 2).trans rfl; have hfz8_0 := blk_frozen BK112.out 0; have hfz8_1 := blk_frozen BK112.out 1; have hfz8_2 := blk_frozen BK112.out 2) | (go_at_call 29; (with_reducible refine (tlv_laid.calls (G := G) a0_0 a0_1 _ _ l0_2 t114 _ ?side1 ?side2 ?side3 A4.out).mono ?_); (case side1 => repeat (first | exact (Kd.C_below HR0_2.out HB.out) | (with_reducible refine Kd.C_alloc ?_ _) | (with_reducible refine Kd.C_drewN ?_ _) | (with_reducible refine Kd.C_drew ?_))); (case side2 => exact HC0_2.out); (case side3 => first | exact hG | exact GW.below hG q0_); rintro e w9 ⟨rfl, hb⟩; have n0_ := Aside0.mk (blk_below (g := gb112) (o := .cells #[.int .i64 a0_0, .string a0_1, .slice A0_2 l0_2.length c0_2] 24 (0, 0)) (bkq BK112.out) hb); have n1_ := Aside0.mk (below_step q0_ hb); clear BK112; clear HB; have BK112 := n0_; have HB := n1_; clear n0_ n1_; (try clear hb); (try clear hb2); (try clear hk); (try clear hi)))
  go_ret
  exact ⟨q2_, q0_⟩
 ·replace c3 := Bool.eq_false_iff.mpr c3
  subst c3
  have H1 : (some false) = some r := by rw [if_neg (show ¬ (false = true) by decide)] at H; exact H
  clear H
  have H := H1
  clear H1
  obtain rfl := Option.some.inj H
  go_enter Tryd.func21, Tryd.ntmps21
  go_wp2_with (first | ((with_reducible refine gate_dst (N := 1) rfl ?_); (try (refine gate_guard (by rfl) ?_; dsimp only)); refine box_event ?hg (N := 1) ?hd (cs := #[.int .i64 a0_0, .string a0_1, .slice A0_2 l0_2.length c0_2]) (t := 24) ?hr ?_; (case hd => rfl); (case hg => rfl); (case hr => first | (go_simp; done) | (go_simp; rfl)); intro gb112 hg w10 hbox hb; have n0_ := Aside0.mk (below_step q0_ hb); have n1_ := Aside0.mk (hbox); have n2_ := Aside0.mk ((by rw [hg]; exact (below_size q0_) : w.heap.size ≤ gb112)); have n3_ := Aside0.mk ((by rw [hg]; exact (below_size q0_) : w.heap.size ≤ gb112)); clear HB; have HB := n0_; have BK112 := n1_; have GW112 := n2_; have GE112 := n3_; clear n0_ n1_ n2_ n3_; clear hb hbox hg; have hcz11_0 : w10.cell? ⟨gb112, 0, none⟩ = some (.int .i64 a0_0) := (blk_cell BK112.out 0).trans rfl; have hcz11_1 : w10.cell? ⟨gb112, 1, none⟩ = some (.string a0_1) := (blk_cell BK112.out 1).trans rfl; have hcz11_2 : w10.cell? ⟨gb112, 2, none⟩ = some (.slice A0_2 l0_2.length c0_2) := (blk_cell BK112.out 2).trans rfl; have hfz11_0 := blk_frozen BK112.out 0; have hfz11_1 := blk_frozen BK112.out 1; have hfz11_2 := blk_frozen BK112.out 2) | ((with_reducible refine gate_callee (f := 34) rfl ?_); refine goesL_ (some 4) rfl rfl Tryd.func34 (by kernel_rfl) rfl #[.agg #[.int .i64 a0_0, .string a0_1, .slice A0_2 l0_2.length c0_2]] rfl argq ?_; (with_reducible refine (tlv_isShaped.calls a0_0 a0_1 _ _ l0_2 false _ ?side1 ?side2 A2.out).mono ?_); (case side1 => repeat (first | exact (Kd.C_below HR0_2.out HB.out) | (with_reducible refine Kd.C_alloc ?_ _) | (with_reducible refine Kd.C_drewN ?_ _) | (with_reducible refine Kd.C_drew ?_))); (case side2 => exact HC0_2.out); rintro e w12 ⟨rfl, hb⟩; refine ⟨_, rfl, ?_⟩; have n0_ := Aside0.mk (blk_below (g := gb112) (o := .cells #[.int .i64 a0_0, .string a0_1, .slice A0_2 l0_2.length c0_2] 24 (0, 0)) (bkq BK112.out) hb); have n1_ := Aside0.mk (below_step q0_ hb); clear BK112; clear HB; have BK112 := n0_; have HB := n1_; clear n0_ n1_; (try clear hb); (try clear hb2); (try clear hk); (try clear hi)))
  go_ret
  exact ⟨q2_, q0_⟩
def tlv_Encode.f (a0_0 : Int) (a0_1 : ByteArray) (l0_2 : List (S24)) : Option (ByteArray × Int) := (tlv_Right.f a0_0 a0_1 l0_2).bind fun t116 => (if t116 = true then ((tlv_laid.f a0_0 a0_1 l0_2).bind fun t117 => (some (t117, 0))) else ((tlv_told.f (some (Er.node 0))).bind fun t118 => (some ((⟨#[]⟩ : ByteArray), t118))))
set_option maxHeartbeats 8000000 in
set_option maxRecDepth 100000 in
theorem tlv_Encode.calls (a0_0 : Int) (a0_1 : ByteArray) (A0_2 : Option Addr) (c0_2 : Nat) (l0_2 : List (S24)) (r1 : ByteArray) (r2 : Int) (w : World) (hr0_2 : Kd.C k24 w A0_2 l0_2.length l0_2) (hc0_2 : l0_2.length ≤ c0_2) (hG : GW G w) (h : tlv_Encode.f a0_0 a0_1 l0_2 = some (r1, r2)) :
  Calls Tryd.prog 15 #[.agg #[.int .i64 a0_0, .string a0_1, .slice A0_2 l0_2.length c0_2]] w fun e w' => e = .returned (.tuple #[.string r1, .int .i64 r2]) ∧ Below w.heap.size w w' := by
 have hu24 := Tryd.underlying24
 have hu49 := Tryd.underlying49
 have HR0_2 := Aside0.mk hr0_2
 have HC0_2 := Aside0.mk hc0_2
 clear hr0_2 hc0_2
 have HB := Aside0.mk (Below.refl w.heap.size w)
 have H : ((tlv_Right.f a0_0 a0_1 l0_2).bind fun t116 => (if t116 = true then ((tlv_laid.f a0_0 a0_1 l0_2).bind fun t117 => (some (t117, 0))) else ((tlv_told.f (some (Er.node 0))).bind fun t118 => (some ((⟨#[]⟩ : ByteArray), t118))))) = some (r1, r2) := h
 clear h
 replace H := Option.bind_eq_some_iff.mp H
 obtain ⟨t116, A20, H⟩ := H
 replace H : (if t116 = true then ((tlv_laid.f a0_0 a0_1 l0_2).bind fun t117 => (some (t117, 0))) else ((tlv_told.f (some (Er.node 0))).bind fun t118 => (some ((⟨#[]⟩ : ByteArray), t118)))) = some (r1, r2) := H
 have A2 := Aside0.mk A20
 clear A20
 by_cases c3 : t116 = true
 ·subst c3
  have H1 : ((tlv_laid.f a0_0 a0_1 l0_2).bind fun t117 => (some (t117, 0))) = some (r1, r2) := by rw [if_pos rfl] at H; exact H
  clear H
  have H := H1
  clear H1
  replace H := Option.bind_eq_some_iff.mp H
  obtain ⟨t117, A40, H⟩ := H
  replace H : (some (t117, 0)) = some (r1, r2) := H
  have A4 := Aside0.mk A40
  clear A40
  simp only [Option.some.injEq, Prod.mk.injEq] at H
  obtain ⟨rfl, rfl⟩ := H
  go_enter Tryd.func15, Tryd.ntmps15
  go_wp2_with (first | ((with_reducible refine gate_dst (N := 1) rfl ?_); refine box_event ?hg (N := 1) ?hd (cs := #[.int .i64 a0_0, .string a0_1, .slice A0_2 l0_2.length c0_2]) (t := 24) ?hr ?_; (case hd => rfl); (case hg => rfl); (case hr => first | (go_simp; done) | (go_simp; rfl)); intro gb115 hg w5 hbox hb; have n0_ := Aside0.mk (below_step q0_ hb); have n1_ := Aside0.mk (hbox); have n2_ := Aside0.mk ((by rw [hg]; exact (below_size q0_) : w.heap.size ≤ gb115)); have n3_ := Aside0.mk ((by rw [hg]; exact (below_size q0_) : w.heap.size ≤ gb115)); clear HB; have HB := n0_; have BK115 := n1_; have GW115 := n2_; have GE115 := n3_; clear n0_ n1_ n2_ n3_; clear hb hbox hg; have hcz6_0 : w5.cell? ⟨gb115, 0, none⟩ = some (.int .i64 a0_0) := (blk_cell BK115.out 0).trans rfl; have hcz6_1 : w5.cell? ⟨gb115, 1, none⟩ = some (.string a0_1) := (blk_cell BK115.out 1).trans rfl; have hcz6_2 : w5.cell? ⟨gb115, 2, none⟩ = some (.slice A0_2 l0_2.length c0_2) := (blk_cell BK115.out 2).trans rfl; have hfz6_0 := blk_frozen BK115.out 0; have hfz6_1 := blk_frozen BK115.out 1; have hfz6_2 := blk_frozen BK115.out 2) | ((with_reducible refine gate_callee (f := 21) rfl ?_); refine goesL_ (some 5) rfl rfl Tryd.func21 (by kernel_rfl) rfl #[.agg #[.int .i64 a0_0, .string a0_1, .slice A0_2 l0_2.length c0_2]] rfl argq ?_; (with_reducible refine (tlv_Right.calls (G := G) a0_0 a0_1 _ _ l0_2 true _ ?side1 ?side2 ?side3 A2.out).mono ?_); (case side1 => repeat (first | exact (Kd.C_below HR0_2.out HB.out) | (with_reducible refine Kd.C_alloc ?_ _) | (with_reducible refine Kd.C_drewN ?_ _) | (with_reducible refine Kd.C_drew ?_))); (case side2 => exact HC0_2.out); (case side3 => first | exact hG | exact GW.below hG q0_); rintro e w7 ⟨rfl, hb⟩; refine ⟨_, rfl, ?_⟩; have n0_ := Aside0.mk (blk_below (g := gb115) (o := .cells #[.int .i64 a0_0, .string a0_1, .slice A0_2 l0_2.length c0_2] 24 (0, 0)) (bkq BK115.out) hb); have n1_ := Aside0.mk (below_step q0_ hb); clear BK115; clear HB; have BK115 := n0_; have HB := n1_; clear n0_ n1_; (try clear hb); (try clear hb2); (try clear hk); (try clear hi); have hcz8_0 : w7.cell? ⟨gb115, 0, none⟩ = some (.int .i64 a0_0) := (blk_cell BK115.out 0).trans rfl; have hcz8_1 : w7.cell? ⟨gb115, 1, none⟩ = some (.string a0_1) := (blk_cell BK115.out 1).trans rfl; have hcz8_2 : w7.cell? ⟨gb115, 2, none⟩ = some (.slice A0_2 l0_2.length c0_2) := (blk_cell BK115.out 2).trans rfl; have hfz8_0 := blk_frozen BK115.out 0; have hfz8_1 := blk_frozen BK115.out 1; have hfz8_2 := blk_frozen BK115.out 2) | ((with_reducible refine gate_callee (f := 29) rfl ?_); refine goesL_ (some 12) rfl rfl Tryd.func29 (by kernel_rfl) rfl #[.agg #[.int .i64 a0_0, .string a0_1, .slice A0_2 l0_2.length c0_2]] rfl argq ?_; (with_reducible refine (tlv_laid.calls (G := G) a0_0 a0_1 _ _ l0_2 t117 _ ?side1 ?side2 ?side3 A4.out).mono ?_); (case side1 => repeat (first | exact (Kd.C_below HR0_2.out HB.out) | (with_reducible refine Kd.C_alloc ?_ _) | (with_reducible refine Kd.C_drewN ?_ _) | (with_reducible refine Kd.C_drew ?_))); (case side2 => exact HC0_2.out); (case side3 => first | exact hG | exact GW.below hG q0_); rintro e w9 ⟨rfl, hb⟩; refine ⟨_, rfl, ?_⟩; have n0_ := Aside0.mk (blk_below (g := gb115) (o := .cells #[.int .i64 a0_0, .string a0_1, .slice A0_2 l0_2.length c0_2] 24 (0, 0)) (bkq BK115.out) hb); have n1_ := Aside0.mk (below_step q0_ hb); clear BK115; clear HB; have BK115 := n0_; have HB := n1_; clear n0_ n1_; (try clear hb); (try clear hb2); (try clear hk); (try clear hi)))
  go_ret2
  exact ⟨q2_, q0_⟩
 ·replace c3 := Bool.eq_false_iff.mpr c3
  subst c3
  have H1 : ((tlv_told.f (some (Er.node 0))).bind fun t118 => (some ((⟨#[]⟩ : ByteArray), t118))) = some (r1, r2) := by rw [if_neg (show ¬ (false = true) by decide)] at H; exact H
  clear H
  have H := H1
  clear H1
  replace H := Option.bind_eq_some_iff.mp H
  obtain ⟨t118, A100, H⟩ := H
  replace H : (some ((⟨#[]⟩ : ByteArray), t118)) = some (r1, r2) := H
  have A10 := Aside0.mk A100
  clear A100
  simp only [Option.some.injEq, Prod.mk.injEq] at H
  obtain ⟨rfl, rfl⟩ := H
  go_enter Tryd.func15, Tryd.ntmps15
  go_wp2_with (first | ((with_reducible refine gate_dst (N := 1) rfl ?_); refine box_event ?hg (N := 1) ?hd (cs := #[.int .i64 a0_0, .string a0_1, .slice A0_2 l0_2.length c0_2]) (t := 24) ?hr ?_; (case hd => rfl); (case hg => rfl); (case hr => first | (go_simp; done) | (go_simp; rfl)); intro gb115 hg w11 hbox hb; have n0_ := Aside0.mk (below_step q0_ hb); have n1_ := Aside0.mk (hbox); have n2_ := Aside0.mk ((by rw [hg]; exact (below_size q0_) : w.heap.size ≤ gb115)); have n3_ := Aside0.mk ((by rw [hg]; exact (below_size q0_) : w.heap.size ≤ gb115)); clear HB; have HB := n0_; have BK115 := n1_; have GW115 := n2_; have GE115 := n3_; clear n0_ n1_ n2_ n3_; clear hb hbox hg; have hcz12_0 : w11.cell? ⟨gb115, 0, none⟩ = some (.int .i64 a0_0) := (blk_cell BK115.out 0).trans rfl; have hcz12_1 : w11.cell? ⟨gb115, 1, none⟩ = some (.string a0_1) := (blk_cell BK115.out 1).trans rfl; have hcz12_2 : w11.cell? ⟨gb115, 2, none⟩ = some (.slice A0_2 l0_2.length c0_2) := (blk_cell BK115.out 2).trans rfl; have hfz12_0 := blk_frozen BK115.out 0; have hfz12_1 := blk_frozen BK115.out 1; have hfz12_2 := blk_frozen BK115.out 2) | ((with_reducible refine gate_callee (f := 21) rfl ?_); refine goesL_ (some 5) rfl rfl Tryd.func21 (by kernel_rfl) rfl #[.agg #[.int .i64 a0_0, .string a0_1, .slice A0_2 l0_2.length c0_2]] rfl argq ?_; (with_reducible refine (tlv_Right.calls (G := G) a0_0 a0_1 _ _ l0_2 false _ ?side1 ?side2 ?side3 A2.out).mono ?_); (case side1 => repeat (first | exact (Kd.C_below HR0_2.out HB.out) | (with_reducible refine Kd.C_alloc ?_ _) | (with_reducible refine Kd.C_drewN ?_ _) | (with_reducible refine Kd.C_drew ?_))); (case side2 => exact HC0_2.out); (case side3 => first | exact hG | exact GW.below hG q0_); rintro e w13 ⟨rfl, hb⟩; refine ⟨_, rfl, ?_⟩; have n0_ := Aside0.mk (blk_below (g := gb115) (o := .cells #[.int .i64 a0_0, .string a0_1, .slice A0_2 l0_2.length c0_2] 24 (0, 0)) (bkq BK115.out) hb); have n1_ := Aside0.mk (below_step q0_ hb); clear BK115; clear HB; have BK115 := n0_; have HB := n1_; clear n0_ n1_; (try clear hb); (try clear hb2); (try clear hk); (try clear hi); have hcz14 : w13.cell? ⟨0, 0, none⟩ = some (GC0 G) := GW.c0 (GW.below hG q0_); simp only [GC0] at hcz14; have hnbz14_0 := (Nat.ne_of_lt (Nat.lt_of_lt_of_le (GW.lt0 hG) GE115.out)); have hncz14_0 := Ne.symm (Nat.ne_of_lt (Nat.lt_of_lt_of_le (GW.lt0 hG) GE115.out)); have CA10 := fun W (hG_ : GW G W) => tlv_told.calls (some (Er.node 0)) t118 W hG_ A10.out; try simp only [eW] at CA10) | (go_at_call 28; (with_reducible refine (CA10 _ ?side1).mono ?_); (case side1 => first | exact hG | exact GW.below hG q0_); rintro e w15 ⟨rfl, hb⟩; have n0_ := Aside0.mk (blk_below (g := gb115) (o := .cells #[.int .i64 a0_0, .string a0_1, .slice A0_2 l0_2.length c0_2] 24 (0, 0)) (bkq BK115.out) hb); have n1_ := Aside0.mk (below_step q0_ hb); clear BK115; clear HB; have BK115 := n0_; have HB := n1_; clear n0_ n1_; (try clear hb); (try clear hb2); (try clear hk); (try clear hi)))
  go_ret2
  exact ⟨q2_, q0_⟩
def tlv_isInner.f (a0 : Int) : Option (Bool) := some ((Go.bits .and .i64 a0 32) != 0)
set_option maxHeartbeats 8000000 in
set_option maxRecDepth 100000 in
theorem tlv_isInner.calls (a0 : Int) (r : Bool) (w : World) (h : tlv_isInner.f a0 = some r) :
  Calls Tryd.prog 60 #[.int .i64 a0] w fun e w' => e = .returned (.bool r) ∧ Drawn0 w w' := by
 have H : (some ((Go.bits .and .i64 a0 32) != 0)) = some r := h
 clear h
 obtain rfl := Option.some.inj H
 go_enter Tryd.func60, Tryd.ntmps60
 go_wp2
 go_ret
 exact ⟨q3_, q14_⟩
mutual
def tlv_reader_tree.l0 : Nat → Int → Int → ByteArray → Int → Int → Int → ByteArray → List (S24) → Option (Int × ByteArray × (List (S24)) × Option Er × ByteArray × Int × Int)
 | 0, _, _, _, _, _, _, _, _ => none
 | k + 1, x2, x9, x1000, x1001, x1002, x128000, x128001, x128002 => if x1001 < x9 then ((tlv_reader_tree.f k x1000 x1001 x1002 x9 (wrap64 (x2 + 1))).bind fun bt129 => (if bt129.2.2.2.1.isNone = true then (if x128002.length < 2932031007402 then (tlv_reader_tree.l0 k x2 x9 bt129.2.2.2.2.1 bt129.2.2.2.2.2.1 bt129.2.2.2.2.2.2 x128000 x128001 (x128002 ++ [(⟨bt129.1, bt129.2.1, bt129.2.2.1⟩ : S24)])) else (none)) else (some (0, (⟨#[]⟩ : ByteArray), ([] : List (S24)), some (bt129.2.2.2.1.getD Er.z), bt129.2.2.2.2.1, bt129.2.2.2.2.2.1, bt129.2.2.2.2.2.2)))) else (some (x128000, x128001, x128002, none, x1000, x1001, x1002))
def tlv_reader_tree.f : Nat → ByteArray → Int → Int → Int → Int → Option (Int × ByteArray × (List (S24)) × Option Er × ByteArray × Int × Int)
 | 0, _, _, _, _, _ => none
 | k + 1, s0_0, s0_1, s0_2, a1, a2 => (tlv_reader_head.f s0_0 s0_1 s0_2 a1 a2).bind fun bt120 => (if bt120.2.2.1.isNone = true then ((tlv_isInner.f bt120.1).bind fun t128 => (if t128 = true then (tlv_reader_tree.l0 k a2 bt120.2.1 bt120.2.2.2.1 bt120.2.2.2.2.1 bt120.2.2.2.2.2 bt120.1 (⟨#[]⟩ : ByteArray) ([] : List (S24))) else (if 0 ≤ bt120.2.2.2.2.1 then (if bt120.2.2.2.2.1 ≤ bt120.2.1 then (if bt120.2.1 ≤ (bt120.2.2.2.1.size : Int) then (some (bt120.1, bt120.2.2.2.1.extract (bt120.2.2.2.2.1 : Int).toNat (bt120.2.1 : Int).toNat, ([] : List (S24)), none, bt120.2.2.2.1, bt120.2.1, bt120.2.2.2.2.2)) else (none)) else (none)) else (none)))) else (some (0, (⟨#[]⟩ : ByteArray), ([] : List (S24)), some (bt120.2.2.1.getD Er.z), bt120.2.2.2.1, bt120.2.2.2.2.1, bt120.2.2.2.2.2)))
end
theorem tlv_reader_tree.mono_l : ∀ k, (∀ y0 y1 y2 y3 y4, LeO (tlv_reader_tree.f k y0 y1 y2 y3 y4) (tlv_reader_tree.f (k + 1) y0 y1 y2 y3 y4)) ∧ (∀ y0 y1 y2 y3 y4 y5 y6 y7, LeO (tlv_reader_tree.l0 k y0 y1 y2 y3 y4 y5 y6 y7) (tlv_reader_tree.l0 (k + 1) y0 y1 y2 y3 y4 y5 y6 y7))
 | 0 => ⟨fun _ _ _ _ _ r h => by simp [tlv_reader_tree.f] at h, fun _ _ _ _ _ _ _ _ r h => by simp [tlv_reader_tree.l0] at h⟩
 | k + 1 => by
  obtain ⟨ih0, ih1⟩ := tlv_reader_tree.mono_l k
  refine ⟨?_, ?_⟩
  ·intro y0 y1 y2 y3 y4
   unfold tlv_reader_tree.f
   repeat' first
   | (with_reducible exact ih0 _ _ _ _ _)
   | (with_reducible exact ih1 _ _ _ _ _ _ _ _)
   | (with_reducible exact LeO.refl _)
   | (with_reducible exact LeO.none _)
   | (with_reducible refine LeO.ite ?_ ?_)
   | (with_reducible refine LeO.bind ?_ (fun _ => ?_))
   | exact ih0 _ _ _ _ _
   | exact ih1 _ _ _ _ _ _ _ _
   | exact LeO.none _
   | refine LeO.ite ?_ ?_
   | refine LeO.bind ?_ (fun _ => ?_)
  ·intro y0 y1 y2 y3 y4 y5 y6 y7
   unfold tlv_reader_tree.l0
   repeat' first
   | (with_reducible exact ih0 _ _ _ _ _)
   | (with_reducible exact ih1 _ _ _ _ _ _ _ _)
   | (with_reducible exact LeO.refl _)
   | (with_reducible exact LeO.none _)
   | (with_reducible refine LeO.ite ?_ ?_)
   | (with_reducible refine LeO.bind ?_ (fun _ => ?_))
   | exact ih0 _ _ _ _ _
   | exact ih1 _ _ _ _ _ _ _ _
   | exact LeO.none _
   | refine LeO.ite ?_ ?_
   | refine LeO.bind ?_ (fun _ => ?_)
theorem tlv_reader_tree.mono : ∀ a0 a1 a2 a3 a4 k, LeO (tlv_reader_tree.f k a0 a1 a2 a3 a4) (tlv_reader_tree.f (k + 1) a0 a1 a2 a3 a4) := by
 intro a0 a1 a2 a3 a4 k
 obtain ⟨ih0, ih1⟩ := tlv_reader_tree.mono_l k
 exact ih0 a0 a1 a2 a3 a4
def tlv_reader_tree.T6 : Bool × List (List Nat × List Nat) := (true, [([], []), ([], []), ([1], [1]), ([2], [2]), ([3], [3]), ([4], [4]), ([], []), ([6], [6]), ([7], [7]), ([8], [8]), ([9], [9]), ([], []), ([5, 10, 11], [5, 10, 11]), ([], []), ([1, 2, 3, 4, 5, 6, 7, 8, 9, 10, 11, 12], []), ([14, 12, 1, 2, 3, 4, 5, 6, 7, 8, 9, 10, 11, 12], [12, 14]), ([0, 0, 1, 2, 3, 4, 5, 6, 7, 8, 9, 10, 11, 12, 13, 14, 15], [0]), ([16, 0, 1, 2, 3, 4, 5, 6, 7, 8, 9, 10, 11, 12, 13, 14, 15], [16]), ([17, 0, 1, 2, 3, 4, 5, 6, 7, 8, 9, 10, 11, 12, 13, 14, 15], [17]), ([18, 13, 15, 0, 1, 2, 3, 4, 5, 6, 7, 8, 9, 10, 11, 12, 13, 14, 15], [13, 18])])
def tlv_reader_tree.B6 : List Nat := [0, 0, 2, 6, 14, 30, 0, 64, 192, 448, 960, 0, 4094, 0, 8190, 24574, 65535, 131071, 262143, 524287]
theorem tlv_reader_tree.tab6 : rtab .any (opsOf Tryd.f44 6) = tlv_reader_tree.T6 := by kernel_rfl
theorem tlv_reader_tree.bits6 : waitsOk tlv_reader_tree.T6.2 tlv_reader_tree.B6 = true := by kernel_rfl
set_option maxHeartbeats 8000000 in
set_option maxRecDepth 100000 in
theorem tlv_reader_tree.calls (k : Nat) : ∀ (g : Nat) (s0_0 : ByteArray) (s0_1 : Int) (s0_2 : Int) (a1 : Int) (a2 : Int) (r1 : Int) (r2 : ByteArray) (r3 : List (S24)) (r4 : Option Er) (r5 : ByteArray) (r6 : Int) (r7 : Int) (w0 w : World) (hI : IsS74 w0 w g s0_0 s0_1 s0_2) (hB : Below w0.heap.size w0 w) (hG : GW G w0) (h : tlv_reader_tree.f k s0_0 s0_1 s0_2 a1 a2 = some (r1, r2, r3, r4, r5, r6, r7)),
  Calls Tryd.prog 44 #[.pointer (some ⟨g, 0, none⟩), .int .i64 a1, .int .i64 a2] w fun e w' => ∃ v2_ : Value, e = .returned (.tuple #[.agg #[.int .i64 r1, .string r2, v2_], errW G r4]) ∧ Kd.R k24 24 w' w.heap.size (fun _ => True) v2_ r3 ∧ IsS74 w0 w' g r5 r6 r7 ∧ Below w0.heap.size w0 w' ∧ KeepBut w w' g none := by
 induction k using Nat.strongRecOn with
 | _ k ih =>
 intro g s0_0 s0_1 s0_2 a1 a2 r1 r2 r3 r4 r5 r6 r7 w0 w hI hB hG h
 cases k with
 | zero => exact absurd h (by simp [tlv_reader_tree.f])
 | succ k =>
 simp only [tlv_reader_tree.f] at h
 have hu24 := Tryd.underlying24
 have hu49 := Tryd.underlying49
 have HI0 := Aside0.mk hI
 have HK := Aside0.mk (KeepBut.refl w g none)
 have HL := Aside0.mk hB.size
 clear hI
 have HW0 := Aside0.mk hB.size
 have HB := Aside0.mk hB
 clear hB
 have H : ((tlv_reader_head.f s0_0 s0_1 s0_2 a1 a2).bind fun bt120 => (if bt120.2.2.1.isNone = true then ((tlv_isInner.f bt120.1).bind fun t128 => (if t128 = true then (tlv_reader_tree.l0 k a2 bt120.2.1 bt120.2.2.2.1 bt120.2.2.2.2.1 bt120.2.2.2.2.2 bt120.1 (⟨#[]⟩ : ByteArray) ([] : List (S24))) else (if 0 ≤ bt120.2.2.2.2.1 then (if bt120.2.2.2.2.1 ≤ bt120.2.1 then (if bt120.2.1 ≤ (bt120.2.2.2.1.size : Int) then (some (bt120.1, bt120.2.2.2.1.extract (bt120.2.2.2.2.1 : Int).toNat (bt120.2.1 : Int).toNat, ([] : List (S24)), none, bt120.2.2.2.1, bt120.2.1, bt120.2.2.2.2.2)) else (none)) else (none)) else (none)))) else (some (0, (⟨#[]⟩ : ByteArray), ([] : List (S24)), some (bt120.2.2.1.getD Er.z), bt120.2.2.2.1, bt120.2.2.2.2.1, bt120.2.2.2.2.2)))) = some (r1, r2, r3, r4, r5, r6, r7) := h
 clear h
 replace H := Option.bind_eq_some_iff.mp H
 obtain ⟨⟨t120, t121, t122, t123, t124, t125⟩, A40, H⟩ := H
 replace H : (if t122.isNone = true then ((tlv_isInner.f t120).bind fun t128 => (if t128 = true then (tlv_reader_tree.l0 k a2 t121 t123 t124 t125 t120 (⟨#[]⟩ : ByteArray) ([] : List (S24))) else (if 0 ≤ t124 then (if t124 ≤ t121 then (if t121 ≤ (t123.size : Int) then (some (t120, t123.extract (t124 : Int).toNat (t121 : Int).toNat, ([] : List (S24)), none, t123, t121, t125)) else (none)) else (none)) else (none)))) else (some (0, (⟨#[]⟩ : ByteArray), ([] : List (S24)), some (t122.getD Er.z), t123, t124, t125))) = some (r1, r2, r3, r4, r5, r6, r7) := H
 have A4 := Aside0.mk A40
 clear A40
 rcases t122 with _ | q126
 ·have H1 : ((tlv_isInner.f t120).bind fun t128 => (if t128 = true then (tlv_reader_tree.l0 k a2 t121 t123 t124 t125 t120 (⟨#[]⟩ : ByteArray) ([] : List (S24))) else (if 0 ≤ t124 then (if t124 ≤ t121 then (if t121 ≤ (t123.size : Int) then (some (t120, t123.extract (t124 : Int).toNat (t121 : Int).toNat, ([] : List (S24)), none, t123, t121, t125)) else (none)) else (none)) else (none)))) = some (r1, r2, r3, r4, r5, r6, r7) := by rw [if_pos (show (none : Option Er).isNone = true by rfl)] at H; exact H
  clear H
  have H := H1
  clear H1
  try simp only [eW]
  replace H := Option.bind_eq_some_iff.mp H
  obtain ⟨t128, A50, H⟩ := H
  replace H : (if t128 = true then (tlv_reader_tree.l0 k a2 t121 t123 t124 t125 t120 (⟨#[]⟩ : ByteArray) ([] : List (S24))) else (if 0 ≤ t124 then (if t124 ≤ t121 then (if t121 ≤ (t123.size : Int) then (some (t120, t123.extract (t124 : Int).toNat (t121 : Int).toNat, ([] : List (S24)), none, t123, t121, t125)) else (none)) else (none)) else (none))) = some (r1, r2, r3, r4, r5, r6, r7) := H
  have A5 := Aside0.mk A50
  clear A50
  by_cases c6 : t128 = true
  ·subst c6
   have H1 : (tlv_reader_tree.l0 k a2 t121 t123 t124 t125 t120 (⟨#[]⟩ : ByteArray) ([] : List (S24))) = some (r1, r2, r3, r4, r5, r6, r7) := by rw [if_pos rfl] at H; exact H
   clear H
   have H := H1
   clear H1
   have H' := Aside0.mk H
   clear H
   go_enter Tryd.func44, Tryd.ntmps44
   go_wp2_with (first | ((with_reducible refine gate_dst (N := 6) rfl ?_); refine box_event ?hg (N := 6) ?hd (cs := #[.int .i64 0, .string (⟨#[]⟩ : ByteArray), .slice none 0 0]) (t := 24) ?hr ?_; (case hd => rfl); (case hg => rfl); (case hr => first | (go_simp; done) | (go_simp; rfl)); intro gb119 hg w7 hbox hb; have n0_ := Aside0.mk (IsS74.below q7_ hb); have n1_ := Aside0.mk (KeepBut.trans q1_ (KeepBut.of_below hb g none) (.inl rfl)); have n2_ := Aside0.mk (below_step q5_ hb); have n3_ := Aside0.mk (hbox); have n4_ := Aside0.mk ((by rw [hg]; exact (keep_size (w := w) (g := g) (row := none) q1_) : w.heap.size ≤ gb119)); have n5_ := Aside0.mk ((Nat.le_trans HW0.out (by rw [hg]; exact (keep_size (w := w) (g := g) (row := none) q1_) : w.heap.size ≤ gb119) : w0.heap.size ≤ gb119)); have n6_ := Aside0.mk ((by rw [hg]; exact Nat.ne_of_lt (IsS74.lt (show IsS74 w0 _ g s0_0 s0_1 s0_2 from q7_)) : g ≠ gb119)); have n7_ := Aside0.mk ((by rw [hg]; exact Nat.ne_of_gt (IsS74.lt (show IsS74 w0 _ g s0_0 s0_1 s0_2 from q7_)) : gb119 ≠ g)); clear HI0; clear HK; clear HB; have HI0 := n0_; have HK := n1_; have HB := n2_; have BK119 := n3_; have GW119 := n4_; have GE119 := n5_; have NB0_119 := n6_; have NB119_0 := n7_; clear n0_ n1_ n2_ n3_ n4_ n5_ n6_ n7_; clear hb hbox hg) | ((with_reducible refine gate_callee (f := 59) rfl ?_); refine goesL_ (some 18) rfl rfl Tryd.func59 (by kernel_rfl) rfl #[.pointer (some ⟨g, 0, none⟩), .int .i64 a1, .int .i64 a2] rfl argq ?_; (with_reducible refine (tlv_reader_head.calls (G := G) g s0_0 s0_1 s0_2 a1 a2 t120 t121 none t123 t124 t125 w0 _ ?side1 ?side2 ?side3 A4.out).mono ?_); (case side1 => repeat (first | (with_reducible first | exact HI0.out | apply IsS74.alloc | apply IsS74.drewN | apply IsS74.drew | apply IsS74.set_0 | apply IsS74.set_1 | apply IsS74.set_2 | refine IsS74.far ?_ NB0_119.out _) | exact HI0.out | refine IsS74.far (f0 := ?f0) ?_ NB0_119.out _ | refine IsS74.far (f1 := ?f1) ?_ NB0_119.out _ | refine IsS74.far (f2 := ?f2) ?_ NB0_119.out _ | refine IsS74.far (f0 := ?f0) (f1 := ?f1) ?_ NB0_119.out _ | refine IsS74.far (f0 := ?f0) (f2 := ?f2) ?_ NB0_119.out _ | refine IsS74.far (f1 := ?f1) (f2 := ?f2) ?_ NB0_119.out _)); (case side2 => repeat (first | (with_reducible first | exact HB.out | apply below_alloc | apply pw_below_drewN | apply below_drew1 | refine below_set ?_ (IsS74.ge HI0.out) | refine below_set ?_ (Aside0.out (by assumption))) | exact HB.out)); (case side3 => first | exact hG | exact GW.below hG q10_); rintro e w8 ⟨rfl, hi, hb, hk⟩; refine ⟨_, rfl, ?_⟩; have n0_ := Aside0.mk (KeepBut.blk hk (g' := gb119) (o := .cells #[.int .i64 0, .string (⟨#[]⟩ : ByteArray), .slice none 0 0] 24 (0, 0)) (bkq BK119.out) NB119_0.out (by simp)); have n1_ := Aside0.mk (KeepBut.trans q1_ hk (.inl rfl)); have n2_ := Aside0.mk (hb); have n3_ := Aside0.mk (hi); clear BK119; clear HK; clear HB; clear HI0; have BK119 := n0_; have HK := n1_; have HB := n2_; have HI0 := n3_; clear n0_ n1_ n2_ n3_; (try clear hb); (try clear hb2); (try clear hk); (try clear hi); (try simp only [eW])) | ((with_reducible refine gate_dst (N := 11) rfl ?_); refine box_event ?hg (N := 11) ?hd (cs := #[.int .i64 0, .string (⟨#[]⟩ : ByteArray), .slice none 0 0]) (t := 24) ?hr ?_; (case hd => rfl); (case hg => rfl); (case hr => first | (go_simp; done) | (go_simp; rfl)); intro gb127 hg w9 hbox hb; have n0_ := Aside0.mk (IsS74.below q20_ hb); have n1_ := Aside0.mk (blk_below (g := gb119) (o := .cells #[.int .i64 0, .string (⟨#[]⟩ : ByteArray), .slice none 0 0] 24 (0, 0)) (bkq BK119.out) hb); have n2_ := Aside0.mk (KeepBut.trans q1_ (KeepBut.of_below hb g none) (.inl rfl)); have n3_ := Aside0.mk (below_step q10_ hb); have n4_ := Aside0.mk (hbox); have n5_ := Aside0.mk ((by rw [hg]; exact (keep_size (w := w) (g := g) (row := none) q1_) : w.heap.size ≤ gb127)); have n6_ := Aside0.mk ((Nat.le_trans HW0.out (by rw [hg]; exact (keep_size (w := w) (g := g) (row := none) q1_) : w.heap.size ≤ gb127) : w0.heap.size ≤ gb127)); have n7_ := Aside0.mk ((by rw [hg]; exact Nat.ne_of_lt (blk_lt (g := gb119) (o := .cells #[.int .i64 0, .string (⟨#[]⟩ : ByteArray), .slice none 0 0] 24 (0, 0)) (bkq BK119.out)) : gb119 ≠ gb127)); have n8_ := Aside0.mk ((by rw [hg]; exact Nat.ne_of_gt (blk_lt (g := gb119) (o := .cells #[.int .i64 0, .string (⟨#[]⟩ : ByteArray), .slice none 0 0] 24 (0, 0)) (bkq BK119.out)) : gb127 ≠ gb119)); have n9_ := Aside0.mk ((by rw [hg]; exact Nat.ne_of_lt (IsS74.lt (show IsS74 w0 _ g t123 t124 t125 from q20_)) : g ≠ gb127)); have n10_ := Aside0.mk ((by rw [hg]; exact Nat.ne_of_gt (IsS74.lt (show IsS74 w0 _ g t123 t124 t125 from q20_)) : gb127 ≠ g)); clear HI0; clear BK119; clear HK; clear HB; have HI0 := n0_; have BK119 := n1_; have HK := n2_; have HB := n3_; have BK127 := n4_; have GW127 := n5_; have GE127 := n6_; have NB119_127 := n7_; have NB127_119 := n8_; have NB0_127 := n9_; have NB127_0 := n10_; clear n0_ n1_ n2_ n3_ n4_ n5_ n6_ n7_ n8_ n9_ n10_; clear hb hbox hg; have hnb10 := NB127_119.out; have hnc10 := NB119_127.out; have hnb11 := NB127_0.out; have hnc11 := NB0_127.out; have hcz12_0 : w9.cell? ⟨gb127, 0, none⟩ = some (.int .i64 0) := (blk_cell BK127.out 0).trans rfl; have hcz12_1 : w9.cell? ⟨gb127, 1, none⟩ = some (.string (⟨#[]⟩ : ByteArray)) := (blk_cell BK127.out 1).trans rfl; have hcz12_2 : w9.cell? ⟨gb127, 2, none⟩ = some (.slice none 0 0) := (blk_cell BK127.out 2).trans rfl; have hfz12_0 := blk_frozen BK127.out 0; have hfz12_1 := blk_frozen BK127.out 1; have hfz12_2 := blk_frozen BK127.out 2) | ((with_reducible refine gate_callee (f := 60) rfl ?_); refine goesL_ (some 29) rfl rfl Tryd.func60 (by kernel_rfl) rfl #[.int .i64 t120] rfl argq ?_; (with_reducible refine (tlv_isInner.calls t120 true _ A5.out).mono ?_); rintro e w' ⟨rfl, ⟨nd, rfl⟩⟩; refine ⟨_, rfl, ?_⟩))
   go_loopg [] k (fun kq w' => ∃ (x1000_1 : ByteArray) (x1001_1 : Int) (x1002_1 : Int) (x120000_1 : Int) (x120001_1 : ByteArray) (x128002_1 : List (S24)) (u128002 : Value), Aside0 (tlv_reader_tree.l0 kq a2 t121 x1000_1 x1001_1 x1002_1 t120 (⟨#[]⟩ : ByteArray) x128002_1 = some (r1, r2, r3, r4, r5, r6, r7)) ∧ Aside0 (kq ≤ k) ∧ Aside0 (Kd.R k24 24 w' w.heap.size (fun k_ => k_ ≠ gb119 ∧ k_ ≠ gb127) u128002 x128002_1) ∧ Aside0 (w'.heap[gb119]? = some (.cells #[.int .i64 x120000_1, .string x120001_1, (.slice none 0 0)] 24 (0, 0))) ∧ Aside0 (w'.heap[gb127]? = some (.cells #[.int .i64 t120, .string (⟨#[]⟩ : ByteArray), u128002] 24 (0, 0))) ∧ Aside0 (IsS74 w0 w' g x1000_1 x1001_1 x1002_1) ∧ Aside0 (KeepBut w w' g none) ∧ Aside0 (Below w0.heap.size w0 w'))
   case atStart => exact ⟨(t123), (t124), (t125), (0), ((⟨#[]⟩ : ByteArray)), (([] : List (S24))), (.slice none 0 0), H', ⟨Nat.le_refl _⟩, ⟨q8_⟩, ⟨by refine bkq ?_; refine blk_far ?_ NB119_127.out _; refine bkq ?_; refine blk_far ?_ NB119_127.out _; refine bkq ?_; refine blk_far ?_ NB119_127.out _; refine bkq ?_; exact BK119.out⟩, ⟨by refine bkq ?_; refine blk_put (cs := #[.int .i64 t120, .string (⟨#[]⟩ : ByteArray), .slice none 0 0]) ?_ 2 _ rfl; refine bkq ?_; refine blk_put (cs := #[.int .i64 t120, .string (⟨#[]⟩ : ByteArray), .slice none 0 0]) ?_ 1 _ rfl; refine bkq ?_; refine blk_put (cs := #[.int .i64 0, .string (⟨#[]⟩ : ByteArray), .slice none 0 0]) ?_ 0 _ rfl; refine bkq ?_; exact BK127.out⟩, ⟨q16_⟩, ⟨q1_⟩, ⟨q10_⟩⟩
   case round =>
    clear H'
    try clear c1
    try clear q1
    try clear p2
    try clear c4
    try clear c5
    try clear c6
    try clear c10
    try clear c11
    try clear q12
    try clear hcz12_0
    try clear hcz12_1
    try clear hcz12_2
    try clear hfz12_0
    try clear hfz12_1
    try clear hfz12_2
    try clear q126
    obtain ⟨x1000_1, x1001_1, x1002_1, x120000_1, x120001_1, x128002_1, u128002, HA, HK1, HO_128002, BK119, BK127, HI0, HK, HB⟩ := hrel
    cases gk with
    | zero => exact absurd HA.out (by simp [tlv_reader_tree.l0])
    | succ k1 =>
     have H := HA.out
     clear HA
     simp only [tlv_reader_tree.l0] at H
     by_cases c13 : x1001_1 < t121
     ·rw [if_pos c13] at H
      have c13b0 : decide (x1001_1 < t121) = true := decide_eq_true c13
      clear c13
      replace H := Option.bind_eq_some_iff.mp H
      obtain ⟨⟨t129, t130, t131, t134, t135, t136, t137⟩, A140, H⟩ := H
      replace H : (if t134.isNone = true then (if x128002_1.length < 2932031007402 then (tlv_reader_tree.l0 k1 a2 t121 t135 t136 t137 t120 (⟨#[]⟩ : ByteArray) (x128002_1 ++ [(⟨t129, t130, t131⟩ : S24)])) else (none)) else (some (0, (⟨#[]⟩ : ByteArray), ([] : List (S24)), some (t134.getD Er.z), t135, t136, t137))) = some (r1, r2, r3, r4, r5, r6, r7) := H
      have A14 := Aside0.mk A140
      clear A140
      rcases t134 with _ | q139
      ·have H1 : (if x128002_1.length < 2932031007402 then (tlv_reader_tree.l0 k1 a2 t121 t135 t136 t137 t120 (⟨#[]⟩ : ByteArray) (x128002_1 ++ [(⟨t129, t130, t131⟩ : S24)])) else (none)) = some (r1, r2, r3, r4, r5, r6, r7) := by rw [if_pos (show (none : Option Er).isNone = true by rfl)] at H; exact H
       clear H
       have H := H1
       clear H1
       try simp only [eW]
       by_cases c15 : x128002_1.length < 2932031007402
       ·rw [if_pos c15] at H
        have LMc15 := Aside0.mk c15
        clear c15
        obtain ⟨y140, hy140⟩ : ∃ y_ : List (S24), y_ = (x128002_1 ++ [(⟨t129, t130, t131⟩ : S24)]) := ⟨_, rfl⟩
        replace H : (tlv_reader_tree.l0 k1 a2 t121 t135 t136 t137 t120 (⟨#[]⟩ : ByteArray) y140) = some (r1, r2, r3, r4, r5, r6, r7) := by first | (rw [hy140]; with_reducible exact H) | (have H2_ := (Option.bind_some _ _).symm.trans H; rw [hy140]; with_reducible exact H2_) | (have H2_ := (Option.bind_some _ _).symm.trans H; with_reducible exact H2_) | with_reducible exact H | (rw [hy140]; exact H) | exact H
        have Ny140 := Aside0.mk hy140
        clear hy140
        have H' := Aside0.mk H
        clear H
        obtain ⟨HGz16, hgz16⟩ := HI0.out
        have hcz16_0 := cellS74_0 HGz16
        have hcz16_1 := cellS74_1 HGz16
        have hcz16_2 := cellS74_2 HGz16
        have hfz16_0 := blk_frozen HGz16 0
        have hfz16_1 := blk_frozen HGz16 1
        have hfz16_2 := blk_frozen HGz16 2
        clear HGz16 hgz16
        go_wp2_with (first | ((with_reducible refine gate_callee (f := 44) rfl ?_); refine goesL_ (some 62) rfl rfl Tryd.func44 (by kernel_rfl) rfl #[.pointer (some ⟨g, 0, none⟩), .int .i64 t121, .int .i64 (wrap64 (a2 + 1))] rfl argq ?_; (with_reducible refine (ih k1 (by have := HK1.out; omega) g x1000_1 x1001_1 x1002_1 t121 (wrap64 (a2 + 1)) t129 t130 t131 none t135 t136 t137 w0 _ ?side1 ?side2 ?side3 A14.out).mono ?_); (case side1 => repeat (first | (with_reducible first | exact HI0.out | apply IsS74.alloc | apply IsS74.drewN | apply IsS74.drew | apply IsS74.set_0 | apply IsS74.set_1 | apply IsS74.set_2 | refine IsS74.far ?_ NB0_119.out _ | refine IsS74.far ?_ NB0_127.out _) | exact HI0.out | refine IsS74.far (f0 := ?f0) ?_ NB0_119.out _ | refine IsS74.far (f1 := ?f1) ?_ NB0_119.out _ | refine IsS74.far (f2 := ?f2) ?_ NB0_119.out _ | refine IsS74.far (f0 := ?f0) (f1 := ?f1) ?_ NB0_119.out _ | refine IsS74.far (f0 := ?f0) (f2 := ?f2) ?_ NB0_119.out _ | refine IsS74.far (f1 := ?f1) (f2 := ?f2) ?_ NB0_119.out _ | refine IsS74.far (f0 := ?f0) ?_ NB0_127.out _ | refine IsS74.far (f1 := ?f1) ?_ NB0_127.out _ | refine IsS74.far (f2 := ?f2) ?_ NB0_127.out _ | refine IsS74.far (f0 := ?f0) (f1 := ?f1) ?_ NB0_127.out _ | refine IsS74.far (f0 := ?f0) (f2 := ?f2) ?_ NB0_127.out _ | refine IsS74.far (f1 := ?f1) (f2 := ?f2) ?_ NB0_127.out _)); (case side2 => repeat (first | (with_reducible first | exact HB.out | apply below_alloc | apply pw_below_drewN | apply below_drew1 | refine below_set ?_ (IsS74.ge HI0.out) | refine below_set ?_ (Aside0.out (by assumption))) | exact HB.out)); (case side3 => first | exact hG | exact GW.below hG q10_); rintro e w17 ⟨v132, rfl, ho0, hi, hb, hk⟩; refine ⟨_, rfl, ?_⟩; have n0_ := Aside0.mk (Kd.R_mono (Kd.R_told (Kd.R_oldK (IsS74.apart (show IsS74 w0 _ g x1000_1 x1001_1 x1002_1 from q16_) (rkq HO_128002.out) (by decide)) hk) (Kd.R_base ho0)) (fun _ h_ => h_.1)); have n1_ := Aside0.mk (KeepBut.blk hk (g' := gb119) (o := .cells #[.int .i64 x120000_1, .string x120001_1, .slice none 0 0] 24 (0, 0)) (bkq BK119.out) NB119_0.out (by simp)); have n2_ := Aside0.mk (KeepBut.blk hk (g' := gb127) (o := .cells #[.int .i64 t120, .string (⟨#[]⟩ : ByteArray), u128002] 24 (0, 0)) (bkq BK127.out) NB127_0.out (by simp)); have n3_ := Aside0.mk (Kd.R_lower (Kd.R_newB (Kd.R_newB (Kd.R_new' ho0 (Kd.R_lt (rkq HO_128002.out))) (g := gb119) (o := .cells #[.int .i64 x120000_1, .string x120001_1, .slice none 0 0] 24 (0, 0)) (bkq BK119.out)) (g := gb127) (o := .cells #[.int .i64 t120, .string (⟨#[]⟩ : ByteArray), u128002] 24 (0, 0)) (bkq BK127.out)) (keep_size (w := w) (g := g) (row := none) q1_)); have n4_ := Aside0.mk (KeepBut.trans q1_ hk (.inl rfl)); have n5_ := Aside0.mk (hb); have n6_ := Aside0.mk (hi); clear HO_128002; clear BK119; clear BK127; clear HK; clear HB; clear HI0; have HO_128002 := n0_; have BK119 := n1_; have BK127 := n2_; have HO133 := n3_; have HK := n4_; have HB := n5_; have HI0 := n6_; clear n0_ n1_ n2_ n3_ n4_ n5_ n6_; (try clear hb); (try clear hb2); (try clear hk); (try clear hi); (try clear ho0); (try simp only [eW])) | ((with_reducible refine gate_dst (N := 12) rfl ?_); refine box_event ?hg (N := 12) ?hd (cs := #[.int .i64 0, .string (⟨#[]⟩ : ByteArray), .slice none 0 0]) (t := 24) ?hr ?_; (case hd => rfl); (case hg => rfl); (case hr => first | (go_simp; done) | (go_simp; rfl)); intro gb138 hg w18 hbox hb; have n0_ := Aside0.mk (Kd.R_below (Kd.R_elderB (rkq HO_128002.out) gb138 (Nat.le_of_eq hg.symm)) hb); have n1_ := Aside0.mk (Kd.R_below (Kd.R_elderB (rkq HO133.out) gb138 (Nat.le_of_eq hg.symm)) hb); have n2_ := Aside0.mk (blk_below (g := gb119) (o := .cells #[.int .i64 x120000_1, .string x120001_1, .slice none 0 0] 24 (0, 0)) (bkq BK119.out) hb); have n3_ := Aside0.mk (blk_below (g := gb127) (o := .cells #[.int .i64 t120, .string (⟨#[]⟩ : ByteArray), u128002] 24 (0, 0)) (bkq BK127.out) hb); have n4_ := Aside0.mk (IsS74.below q16_ hb); have n5_ := Aside0.mk (KeepBut.trans q1_ (KeepBut.of_below hb g none) (.inl rfl)); have n6_ := Aside0.mk (below_step q10_ hb); have n7_ := Aside0.mk (hbox); have n8_ := Aside0.mk ((by rw [hg]; exact (keep_size (w := w) (g := g) (row := none) q1_) : w.heap.size ≤ gb138)); have n9_ := Aside0.mk ((Nat.le_trans HW0.out (by rw [hg]; exact (keep_size (w := w) (g := g) (row := none) q1_) : w.heap.size ≤ gb138) : w0.heap.size ≤ gb138)); have n10_ := Aside0.mk ((by rw [hg]; exact Nat.ne_of_lt (blk_lt (g := gb119) (o := .cells #[.int .i64 x120000_1, .string x120001_1, .slice none 0 0] 24 (0, 0)) (bkq BK119.out)) : gb119 ≠ gb138)); have n11_ := Aside0.mk ((by rw [hg]; exact Nat.ne_of_gt (blk_lt (g := gb119) (o := .cells #[.int .i64 x120000_1, .string x120001_1, .slice none 0 0] 24 (0, 0)) (bkq BK119.out)) : gb138 ≠ gb119)); have n12_ := Aside0.mk ((by rw [hg]; exact Nat.ne_of_lt (blk_lt (g := gb127) (o := .cells #[.int .i64 t120, .string (⟨#[]⟩ : ByteArray), u128002] 24 (0, 0)) (bkq BK127.out)) : gb127 ≠ gb138)); have n13_ := Aside0.mk ((by rw [hg]; exact Nat.ne_of_gt (blk_lt (g := gb127) (o := .cells #[.int .i64 t120, .string (⟨#[]⟩ : ByteArray), u128002] 24 (0, 0)) (bkq BK127.out)) : gb138 ≠ gb127)); have n14_ := Aside0.mk ((by rw [hg]; exact Nat.ne_of_lt (IsS74.lt (show IsS74 w0 _ g t135 t136 t137 from q16_)) : g ≠ gb138)); have n15_ := Aside0.mk ((by rw [hg]; exact Nat.ne_of_gt (IsS74.lt (show IsS74 w0 _ g t135 t136 t137 from q16_)) : gb138 ≠ g)); clear HO_128002; clear HO133; clear BK119; clear BK127; clear HI0; clear HK; clear HB; have HO_128002 := n0_; have HO133 := n1_; have BK119 := n2_; have BK127 := n3_; have HI0 := n4_; have HK := n5_; have HB := n6_; have BK138 := n7_; have GW138 := n8_; have GE138 := n9_; have NB119_138 := n10_; have NB138_119 := n11_; have NB127_138 := n12_; have NB138_127 := n13_; have NB0_138 := n14_; have NB138_0 := n15_; clear n0_ n1_ n2_ n3_ n4_ n5_ n6_ n7_ n8_ n9_ n10_ n11_ n12_ n13_ n14_ n15_; clear hb hbox hg; have hnb19 := NB138_119.out; have hnc19 := NB119_138.out; have hnb20 := NB138_127.out; have hnc20 := NB127_138.out; have hnb21 := NB138_0.out; have hnc21 := NB0_138.out; have hcz22_0 : w18.cell? ⟨gb138, 0, none⟩ = some (.int .i64 0) := (blk_cell BK138.out 0).trans rfl; have hcz22_1 : w18.cell? ⟨gb138, 1, none⟩ = some (.string (⟨#[]⟩ : ByteArray)) := (blk_cell BK138.out 1).trans rfl; have hcz22_2 : w18.cell? ⟨gb138, 2, none⟩ = some (.slice none 0 0) := (blk_cell BK138.out 2).trans rfl; have hfz22_0 := blk_frozen BK138.out 0; have hfz22_1 := blk_frozen BK138.out 1; have hfz22_2 := blk_frozen BK138.out 2; obtain ⟨Ao23, co23, eo23⟩ := Kd.R_slice HO133.out; subst eo23) | ((with_reducible refine gate_store (t := 24) (p := 12) rfl ?_); refine store_event (t := 24) (p := 12) (v := ?vo_w24) (w1 := (((w18.setCell ⟨gb138, 0, none⟩ (.int .i64 t129)).setCell ⟨gb138, 1, none⟩ (.string t130)).setCell ⟨gb138, 2, none⟩ (.slice Ao23 t131.length co23))) ?hg ?ho ?hn ?hr ?_; (case ho => rfl); (case hg => rfl); (case hn => rfl); (case hr => first | (go_simp; done) | (go_simp; rfl)); intro w24 hw; have n0_ : Aside0 (Kd.R k24 24 w24 w.heap.size (fun k_ => some k_ ≠ (.slice Ao23 t131.length co23 : Value).ownBlock ∧ k_ ≠ gb119 ∧ k_ ≠ gb127 ∧ k_ ≠ gb138) u128002 x128002_1) := ⟨(by rw [hw]; exact (by refine rkq ?_; exact Kd.R_mono (Kd.R_far (p := ⟨gb138, 2, none⟩) (Kd.R_far (p := ⟨gb138, 1, none⟩) (Kd.R_far (p := ⟨gb138, 0, none⟩) (Kd.R_mono HO_128002.out (fun k_ hk => (⟨hk, hk.2⟩ : _ ∧ k_ ≠ gb138))) (fun _ hk => hk.2) (.int .i64 t129)) (fun _ hk => hk.2) (.string t130)) (fun _ hk => hk.2) (.slice Ao23 t131.length co23)) (fun _ hk => ⟨hk.1.1.2, ⟨hk.1.1.1.1, ⟨hk.1.1.1.2, hk.1.2⟩⟩⟩)))⟩; have n1_ : Aside0 (Kd.R k24 24 w24 w.heap.size (fun k_ => some k_ ≠ (u128002 : Value).ownBlock ∧ k_ ≠ gb119 ∧ k_ ≠ gb127 ∧ k_ ≠ gb138) (.slice Ao23 t131.length co23) t131) := ⟨(by rw [hw]; exact (by refine rkq ?_; exact Kd.R_mono (Kd.R_far (p := ⟨gb138, 2, none⟩) (Kd.R_far (p := ⟨gb138, 1, none⟩) (Kd.R_far (p := ⟨gb138, 0, none⟩) (Kd.R_mono HO133.out (fun k_ hk => (⟨hk, hk.2⟩ : _ ∧ k_ ≠ gb138))) (fun _ hk => hk.2) (.int .i64 t129)) (fun _ hk => hk.2) (.string t130)) (fun _ hk => hk.2) (.slice Ao23 t131.length co23)) (fun _ hk => ⟨hk.1.1.1.1.2, ⟨hk.1.1.1.2, ⟨hk.1.1.2, hk.1.2⟩⟩⟩)))⟩; have n2_ : Aside0 (w24.heap[gb119]? = some (.cells #[.int .i64 x120000_1, .string x120001_1, .slice none 0 0] 24 (0, 0))) := ⟨(by rw [hw]; exact (by refine bkq ?_; refine blk_far ?_ NB119_138.out _; refine bkq ?_; refine blk_far ?_ NB119_138.out _; refine bkq ?_; refine blk_far ?_ NB119_138.out _; refine bkq ?_; exact BK119.out))⟩; have n3_ : Aside0 (w24.heap[gb127]? = some (.cells #[.int .i64 t120, .string (⟨#[]⟩ : ByteArray), u128002] 24 (0, 0))) := ⟨(by rw [hw]; exact (by refine bkq ?_; refine blk_far ?_ NB127_138.out _; refine bkq ?_; refine blk_far ?_ NB127_138.out _; refine bkq ?_; refine blk_far ?_ NB127_138.out _; refine bkq ?_; exact BK127.out))⟩; have n4_ : Aside0 (w24.heap[gb138]? = some (.cells #[.int .i64 t129, .string t130, .slice Ao23 t131.length co23] 24 (0, 0))) := ⟨(by rw [hw]; exact (by refine bkq ?_; refine blk_put (cs := #[.int .i64 t129, .string t130, .slice none 0 0]) ?_ 2 _ rfl; refine bkq ?_; refine blk_put (cs := #[.int .i64 t129, .string (⟨#[]⟩ : ByteArray), .slice none 0 0]) ?_ 1 _ rfl; refine bkq ?_; refine blk_put (cs := #[.int .i64 0, .string (⟨#[]⟩ : ByteArray), .slice none 0 0]) ?_ 0 _ rfl; refine bkq ?_; exact BK138.out))⟩; have n5_ : Aside0 (IsS74 w0 w24 g t135 t136 t137) := ⟨(by rw [hw]; exact q21_)⟩; have n6_ : Aside0 (KeepBut w w24 g none) := ⟨(by rw [hw]; exact q1_)⟩; have n7_ : Aside0 (Below w0.heap.size w0 w24) := ⟨(by rw [hw]; exact q10_)⟩; clear hw; clear HO_128002; clear HO133; clear BK119; clear BK127; clear BK138; clear HI0; clear HK; clear HB; have HO_128002 := n0_; have HO133 := n1_; have BK119 := n2_; have BK127 := n3_; have BK138 := n4_; have HI0 := n5_; have HK := n6_; have HB := n7_; clear n0_ n1_ n2_ n3_ n4_ n5_ n6_ n7_; have hnb25 := NB127_119.out; have hnc25 := NB119_127.out; have hnb26 := NB127_0.out; have hnc26 := NB0_127.out; have hcz27_0 : w24.cell? ⟨gb127, 0, none⟩ = some (.int .i64 t120) := (blk_cell BK127.out 0).trans rfl; have hcz27_1 : w24.cell? ⟨gb127, 1, none⟩ = some (.string (⟨#[]⟩ : ByteArray)) := (blk_cell BK127.out 1).trans rfl; have hcz27_2 : w24.cell? ⟨gb127, 2, none⟩ = some (u128002) := (blk_cell BK127.out 2).trans rfl; have hfz27_0 := blk_frozen BK127.out 0; have hfz27_1 := blk_frozen BK127.out 1; have hfz27_2 := blk_frozen BK127.out 2; have hcz28_0 : w24.cell? ⟨gb138, 0, none⟩ = some (.int .i64 t129) := (blk_cell BK138.out 0).trans rfl; have hcz28_1 : w24.cell? ⟨gb138, 1, none⟩ = some (.string t130) := (blk_cell BK138.out 1).trans rfl; have hcz28_2 : w24.cell? ⟨gb138, 2, none⟩ = some (.slice Ao23 t131.length co23) := (blk_cell BK138.out 2).trans rfl; have hfz28_0 := blk_frozen BK138.out 0; have hfz28_1 := blk_frozen BK138.out 1; have hfz28_2 := blk_frozen BK138.out 2) | ((with_reducible refine gate_builtin (b := .append) (xs := #[.tmp 70, .tmp 72]) rfl ?_); at_builtin; refine Kd.R_append k24 w.heap.size rfl (.tmp 70) (.tmp 72) 22 24 (.agg #[(.int .i64 0), (.string ⟨#[]⟩), (.slice none 0 0)]) 48 rfl Tryd.underlying22 info24 rfl (by decide) (by omega) u128002 x128002_1 (⟨t129, t130, t131⟩ : S24) [.int .i64 t129, .string t130, .slice Ao23 t131.length co23] (fun k_ => k_ ≠ gb119 ∧ k_ ≠ gb127 ∧ k_ ≠ gb138) (fun k_ => ((fun k_ => k_ ≠ gb119 ∧ k_ ≠ gb127 ∧ k_ ≠ gb138)) k_ ∧ some k_ ≠ (u128002 : Value).ownBlock) rfl rfl ?aP (fun _ hk => hk) ?aF ?aO (Below.refl _ _) ?aS ?aL ?_; (case aP => exact k24_mkM _ _ _ (⟨t129, t130, t131⟩ : S24) (Kd.R_mono (HO133.out) (fun k_ hk => ⟨⟨hk.2.1, ⟨hk.2.2.1, hk.2.2.2⟩⟩, hk.1⟩))); (case aF => exact (fun k_ hk => ⟨Kd.freshB (g := gb119) (o := .cells #[.int .i64 x120000_1, .string x120001_1, .slice none 0 0] 24 (0, 0)) (bkq BK119.out) k_ hk, Kd.freshB (g := gb127) (o := .cells #[.int .i64 t120, .string (⟨#[]⟩ : ByteArray), u128002] 24 (0, 0)) (bkq BK127.out) k_ hk, Kd.freshB (g := gb138) (o := .cells #[.int .i64 t129, .string t130, .slice Ao23 t131.length co23] 24 (0, 0)) (bkq BK138.out) k_ hk⟩)); (case aO => exact (by refine rkq ?_; exact Kd.R_mono HO_128002.out (fun _ hk => ⟨hk.2.1, ⟨hk.2.2.1, hk.2.2.2⟩⟩))); (case aS => exact (keep_size (w := w) (g := g) (row := none) q1_)); (case aL => have := LMc15.out; omega); intro v141 w29 ho hb hg hat; rw [← Ny140.out] at ho; have n0_ := Aside0.mk (blk_grown (g := gb119) (o := .cells #[.int .i64 x120000_1, .string x120001_1, .slice none 0 0] 24 (0, 0)) (bkq BK119.out) hg (Kd.R_away HO_128002.out (fun _ hk => hk.2.1))); have n1_ := Aside0.mk (blk_grown (g := gb127) (o := .cells #[.int .i64 t120, .string (⟨#[]⟩ : ByteArray), u128002] 24 (0, 0)) (bkq BK127.out) hg (Kd.R_away HO_128002.out (fun _ hk => hk.2.2.1))); have n2_ := Aside0.mk (IsS74.grown q21_ hg (IsS74.own_ne HI0.out HO_128002.out (by decide))); have n3_ := Aside0.mk (blk_grown (g := gb138) (o := .cells #[.int .i64 t129, .string t130, .slice Ao23 t131.length co23] 24 (0, 0)) (bkq BK138.out) hg (Kd.R_away HO_128002.out (fun _ hk => hk.2.2.2))); have n4_ := Aside0.mk (below_weaken q10_ HL.out hb); have n5_ := Aside0.mk (KeepBut.trans q1_ (KeepBut.of_grown hg g) (Kd.R_base2 HO_128002.out)); have n6_ := Aside0.mk (ho); clear BK119; clear BK127; clear HI0; clear BK138; clear HB; clear HK; clear HO_128002; clear HO133; have BK119 := n0_; have BK127 := n1_; have HI0 := n2_; have BK138 := n3_; have HB := n4_; have HK := n5_; have HO142 := n6_; clear n0_ n1_ n2_ n3_ n4_ n5_ n6_; clear ho hb hg hat; obtain ⟨Ao30, co30, eo30⟩ := Kd.R_slice HO142.out; subst eo30; have hcz31_0 : w29.cell? ⟨gb127, 0, none⟩ = some (.int .i64 t120) := (blk_cell BK127.out 0).trans rfl; have hcz31_1 : w29.cell? ⟨gb127, 1, none⟩ = some (.string (⟨#[]⟩ : ByteArray)) := (blk_cell BK127.out 1).trans rfl; have hcz31_2 : w29.cell? ⟨gb127, 2, none⟩ = some (u128002) := (blk_cell BK127.out 2).trans rfl; have hfz31_0 := blk_frozen BK127.out 0; have hfz31_1 := blk_frozen BK127.out 1; have hfz31_2 := blk_frozen BK127.out 2))
        go_roundg k1
        case measure => have := HK1.out; omega
        case rel => exact ⟨(t135), (t136), (t137), (x120000_1), (x120001_1), (y140), (.slice Ao30 y140.length co30), H', ⟨by have := HK1.out; omega⟩, ⟨by refine rkq ?_; exact Kd.R_mono (Kd.R_far (p := ⟨gb127, 2, none⟩) (Kd.R_mono HO142.out (fun k_ hk => (⟨hk, hk.2.1⟩ : _ ∧ k_ ≠ gb127))) (fun _ hk => hk.2) (.slice Ao30 y140.length co30)) (fun _ hk => ⟨hk.1.1, hk.1.2.1⟩)⟩, ⟨by refine bkq ?_; refine blk_far ?_ NB119_127.out _; refine bkq ?_; exact BK119.out⟩, ⟨by refine bkq ?_; refine blk_put (cs := #[.int .i64 t120, .string (⟨#[]⟩ : ByteArray), u128002]) ?_ 2 _ rfl; refine bkq ?_; exact BK127.out⟩, ⟨q21_⟩, ⟨q1_⟩, ⟨q10_⟩⟩
       ·rw [if_neg c15] at H
        exact absurd H (by simp)
      ·have H1 : (some (0, (⟨#[]⟩ : ByteArray), ([] : List (S24)), some q139, t135, t136, t137)) = some (r1, r2, r3, r4, r5, r6, r7) := by rw [if_neg (show ¬ (some q139).isNone = true by simp)] at H; exact H
       clear H
       have H := H1
       clear H1
       try simp only [eW]
       simp only [Option.some.injEq, Prod.mk.injEq] at H
       obtain ⟨rfl, rfl, rfl, rfl, rfl, rfl, rfl⟩ := H
       obtain ⟨HGz32, hgz32⟩ := HI0.out
       have hcz32_0 := cellS74_0 HGz32
       have hcz32_1 := cellS74_1 HGz32
       have hcz32_2 := cellS74_2 HGz32
       have hfz32_0 := blk_frozen HGz32 0
       have hfz32_1 := blk_frozen HGz32 1
       have hfz32_2 := blk_frozen HGz32 2
       clear HGz32 hgz32
       go_wp2_with (first | ((with_reducible refine gate_callee (f := 44) rfl ?_); refine goesL_ (some 62) rfl rfl Tryd.func44 (by kernel_rfl) rfl #[.pointer (some ⟨g, 0, none⟩), .int .i64 t121, .int .i64 (wrap64 (a2 + 1))] rfl argq ?_; (with_reducible refine (ih k1 (by have := HK1.out; omega) g x1000_1 x1001_1 x1002_1 t121 (wrap64 (a2 + 1)) t129 t130 t131 (some q139) t135 t136 t137 w0 _ ?side1 ?side2 ?side3 A14.out).mono ?_); (case side1 => repeat (first | (with_reducible first | exact HI0.out | apply IsS74.alloc | apply IsS74.drewN | apply IsS74.drew | apply IsS74.set_0 | apply IsS74.set_1 | apply IsS74.set_2 | refine IsS74.far ?_ NB0_119.out _ | refine IsS74.far ?_ NB0_127.out _) | exact HI0.out | refine IsS74.far (f0 := ?f0) ?_ NB0_119.out _ | refine IsS74.far (f1 := ?f1) ?_ NB0_119.out _ | refine IsS74.far (f2 := ?f2) ?_ NB0_119.out _ | refine IsS74.far (f0 := ?f0) (f1 := ?f1) ?_ NB0_119.out _ | refine IsS74.far (f0 := ?f0) (f2 := ?f2) ?_ NB0_119.out _ | refine IsS74.far (f1 := ?f1) (f2 := ?f2) ?_ NB0_119.out _ | refine IsS74.far (f0 := ?f0) ?_ NB0_127.out _ | refine IsS74.far (f1 := ?f1) ?_ NB0_127.out _ | refine IsS74.far (f2 := ?f2) ?_ NB0_127.out _ | refine IsS74.far (f0 := ?f0) (f1 := ?f1) ?_ NB0_127.out _ | refine IsS74.far (f0 := ?f0) (f2 := ?f2) ?_ NB0_127.out _ | refine IsS74.far (f1 := ?f1) (f2 := ?f2) ?_ NB0_127.out _)); (case side2 => repeat (first | (with_reducible first | exact HB.out | apply below_alloc | apply pw_below_drewN | apply below_drew1 | refine below_set ?_ (IsS74.ge HI0.out) | refine below_set ?_ (Aside0.out (by assumption))) | exact HB.out)); (case side3 => first | exact hG | exact GW.below hG q10_); rintro e w33 ⟨v132, rfl, ho0, hi, hb, hk⟩; refine ⟨_, rfl, ?_⟩; have n0_ := Aside0.mk (Kd.R_mono (Kd.R_told (Kd.R_oldK (IsS74.apart (show IsS74 w0 _ g x1000_1 x1001_1 x1002_1 from q16_) (rkq HO_128002.out) (by decide)) hk) (Kd.R_base ho0)) (fun _ h_ => h_.1)); have n1_ := Aside0.mk (KeepBut.blk hk (g' := gb119) (o := .cells #[.int .i64 x120000_1, .string x120001_1, .slice none 0 0] 24 (0, 0)) (bkq BK119.out) NB119_0.out (by simp)); have n2_ := Aside0.mk (KeepBut.blk hk (g' := gb127) (o := .cells #[.int .i64 t120, .string (⟨#[]⟩ : ByteArray), u128002] 24 (0, 0)) (bkq BK127.out) NB127_0.out (by simp)); have n3_ := Aside0.mk (Kd.R_lower (Kd.R_newB (Kd.R_newB (Kd.R_new' ho0 (Kd.R_lt (rkq HO_128002.out))) (g := gb119) (o := .cells #[.int .i64 x120000_1, .string x120001_1, .slice none 0 0] 24 (0, 0)) (bkq BK119.out)) (g := gb127) (o := .cells #[.int .i64 t120, .string (⟨#[]⟩ : ByteArray), u128002] 24 (0, 0)) (bkq BK127.out)) (keep_size (w := w) (g := g) (row := none) q1_)); have n4_ := Aside0.mk (KeepBut.trans q1_ hk (.inl rfl)); have n5_ := Aside0.mk (hb); have n6_ := Aside0.mk (hi); clear HO_128002; clear BK119; clear BK127; clear HK; clear HB; clear HI0; have HO_128002 := n0_; have BK119 := n1_; have BK127 := n2_; have HO133 := n3_; have HK := n4_; have HB := n5_; have HI0 := n6_; clear n0_ n1_ n2_ n3_ n4_ n5_ n6_; (try clear hb); (try clear hb2); (try clear hk); (try clear hi); (try clear ho0); (try simp only [eW])) | ((with_reducible refine gate_dst (N := 12) rfl ?_); refine box_event ?hg (N := 12) ?hd (cs := #[.int .i64 0, .string (⟨#[]⟩ : ByteArray), .slice none 0 0]) (t := 24) ?hr ?_; (case hd => rfl); (case hg => rfl); (case hr => first | (go_simp; done) | (go_simp; rfl)); intro gb138 hg w34 hbox hb; have n0_ := Aside0.mk (Kd.R_below (Kd.R_elderB (rkq HO_128002.out) gb138 (Nat.le_of_eq hg.symm)) hb); have n1_ := Aside0.mk (Kd.R_below (Kd.R_elderB (rkq HO133.out) gb138 (Nat.le_of_eq hg.symm)) hb); have n2_ := Aside0.mk (blk_below (g := gb119) (o := .cells #[.int .i64 x120000_1, .string x120001_1, .slice none 0 0] 24 (0, 0)) (bkq BK119.out) hb); have n3_ := Aside0.mk (blk_below (g := gb127) (o := .cells #[.int .i64 t120, .string (⟨#[]⟩ : ByteArray), u128002] 24 (0, 0)) (bkq BK127.out) hb); have n4_ := Aside0.mk (IsS74.below q16_ hb); have n5_ := Aside0.mk (KeepBut.trans q1_ (KeepBut.of_below hb g none) (.inl rfl)); have n6_ := Aside0.mk (below_step q10_ hb); have n7_ := Aside0.mk (hbox); have n8_ := Aside0.mk ((by rw [hg]; exact (keep_size (w := w) (g := g) (row := none) q1_) : w.heap.size ≤ gb138)); have n9_ := Aside0.mk ((Nat.le_trans HW0.out (by rw [hg]; exact (keep_size (w := w) (g := g) (row := none) q1_) : w.heap.size ≤ gb138) : w0.heap.size ≤ gb138)); have n10_ := Aside0.mk ((by rw [hg]; exact Nat.ne_of_lt (blk_lt (g := gb119) (o := .cells #[.int .i64 x120000_1, .string x120001_1, .slice none 0 0] 24 (0, 0)) (bkq BK119.out)) : gb119 ≠ gb138)); have n11_ := Aside0.mk ((by rw [hg]; exact Nat.ne_of_gt (blk_lt (g := gb119) (o := .cells #[.int .i64 x120000_1, .string x120001_1, .slice none 0 0] 24 (0, 0)) (bkq BK119.out)) : gb138 ≠ gb119)); have n12_ := Aside0.mk ((by rw [hg]; exact Nat.ne_of_lt (blk_lt (g := gb127) (o := .cells #[.int .i64 t120, .string (⟨#[]⟩ : ByteArray), u128002] 24 (0, 0)) (bkq BK127.out)) : gb127 ≠ gb138)); have n13_ := Aside0.mk ((by rw [hg]; exact Nat.ne_of_gt (blk_lt (g := gb127) (o := .cells #[.int .i64 t120, .string (⟨#[]⟩ : ByteArray), u128002] 24 (0, 0)) (bkq BK127.out)) : gb138 ≠ gb127)); have n14_ := Aside0.mk ((by rw [hg]; exact Nat.ne_of_lt (IsS74.lt (show IsS74 w0 _ g t135 t136 t137 from q16_)) : g ≠ gb138)); have n15_ := Aside0.mk ((by rw [hg]; exact Nat.ne_of_gt (IsS74.lt (show IsS74 w0 _ g t135 t136 t137 from q16_)) : gb138 ≠ g)); clear HO_128002; clear HO133; clear BK119; clear BK127; clear HI0; clear HK; clear HB; have HO_128002 := n0_; have HO133 := n1_; have BK119 := n2_; have BK127 := n3_; have HI0 := n4_; have HK := n5_; have HB := n6_; have BK138 := n7_; have GW138 := n8_; have GE138 := n9_; have NB119_138 := n10_; have NB138_119 := n11_; have NB127_138 := n12_; have NB138_127 := n13_; have NB0_138 := n14_; have NB138_0 := n15_; clear n0_ n1_ n2_ n3_ n4_ n5_ n6_ n7_ n8_ n9_ n10_ n11_ n12_ n13_ n14_ n15_; clear hb hbox hg; have hnb35 := NB138_119.out; have hnc35 := NB119_138.out; have hnb36 := NB138_127.out; have hnc36 := NB127_138.out; have hnb37 := NB138_0.out; have hnc37 := NB0_138.out; have hcz38_0 : w34.cell? ⟨gb138, 0, none⟩ = some (.int .i64 0) := (blk_cell BK138.out 0).trans rfl; have hcz38_1 : w34.cell? ⟨gb138, 1, none⟩ = some (.string (⟨#[]⟩ : ByteArray)) := (blk_cell BK138.out 1).trans rfl; have hcz38_2 : w34.cell? ⟨gb138, 2, none⟩ = some (.slice none 0 0) := (blk_cell BK138.out 2).trans rfl; have hfz38_0 := blk_frozen BK138.out 0; have hfz38_1 := blk_frozen BK138.out 1; have hfz38_2 := blk_frozen BK138.out 2; obtain ⟨Ao39, co39, eo39⟩ := Kd.R_slice HO133.out; subst eo39; have hnb40 := NB119_127.out; have hnc40 := NB127_119.out; have hnb41 := NB119_0.out; have hnc41 := NB0_119.out; have hcz42_0 : w34.cell? ⟨gb119, 0, none⟩ = some (.int .i64 x120000_1) := (blk_cell BK119.out 0).trans rfl; have hcz42_1 : w34.cell? ⟨gb119, 1, none⟩ = some (.string x120001_1) := (blk_cell BK119.out 1).trans rfl; have hcz42_2 : w34.cell? ⟨gb119, 2, none⟩ = some (.slice none 0 0) := (blk_cell BK119.out 2).trans rfl; have hfz42_0 := blk_frozen BK119.out 0; have hfz42_1 := blk_frozen BK119.out 1; have hfz42_2 := blk_frozen BK119.out 2))
       refine bodyPost_ret (results_ct rfl _ _ gb119 24 #[.int .i64 0, .string (⟨#[]⟩ : ByteArray), .slice none 0 0] (0, 0) _ rfl (by refine bkq ?_; refine blk_put (cs := #[.int .i64 0, .string (⟨#[]⟩ : ByteArray), .slice none 0 0]) ?_ 2 _ rfl; refine bkq ?_; refine blk_put (cs := #[.int .i64 0, .string x120001_1, .slice none 0 0]) ?_ 1 _ rfl; refine bkq ?_; refine blk_put (cs := #[.int .i64 x120000_1, .string x120001_1, .slice none 0 0]) ?_ 0 _ rfl; refine bkq ?_; refine blk_far ?_ NB119_138.out _; refine bkq ?_; refine blk_far ?_ NB119_138.out _; refine bkq ?_; refine blk_far ?_ NB119_138.out _; refine bkq ?_; exact BK119.out) Tryd.underlying24 rfl (by kernel_rfl)) rfl ?_
       exact ⟨_, q2_, q8_, q21_, q10_, q1_⟩
     ·rw [if_neg c13] at H
      have c13b0 : decide (x1001_1 < t121) = false := decide_eq_false c13
      clear c13
      simp only [Option.some.injEq, Prod.mk.injEq] at H
      obtain ⟨rfl, rfl, rfl, rfl, rfl, rfl, rfl⟩ := H
      obtain ⟨HGz43, hgz43⟩ := HI0.out
      have hcz43_0 := cellS74_0 HGz43
      have hcz43_1 := cellS74_1 HGz43
      have hcz43_2 := cellS74_2 HGz43
      have hfz43_0 := blk_frozen HGz43 0
      have hfz43_1 := blk_frozen HGz43 1
      have hfz43_2 := blk_frozen HGz43 2
      clear HGz43 hgz43
      have hnb44 := NB127_119.out
      have hnc44 := NB119_127.out
      have hnb45 := NB127_0.out
      have hnc45 := NB0_127.out
      have hcz46_0 : wr.cell? ⟨gb127, 0, none⟩ = some (.int .i64 t120) := (blk_cell BK127.out 0).trans rfl
      have hcz46_1 : wr.cell? ⟨gb127, 1, none⟩ = some (.string (⟨#[]⟩ : ByteArray)) := (blk_cell BK127.out 1).trans rfl
      have hcz46_2 : wr.cell? ⟨gb127, 2, none⟩ = some (u128002) := (blk_cell BK127.out 2).trans rfl
      have hfz46_0 := blk_frozen BK127.out 0
      have hfz46_1 := blk_frozen BK127.out 1
      have hfz46_2 := blk_frozen BK127.out 2
      have hnb47 := NB119_0.out
      have hnc47 := NB0_119.out
      have hcz48_0 : wr.cell? ⟨gb119, 0, none⟩ = some (.int .i64 x120000_1) := (blk_cell BK119.out 0).trans rfl
      have hcz48_1 : wr.cell? ⟨gb119, 1, none⟩ = some (.string x120001_1) := (blk_cell BK119.out 1).trans rfl
      have hcz48_2 : wr.cell? ⟨gb119, 2, none⟩ = some (.slice none 0 0) := (blk_cell BK119.out 2).trans rfl
      have hfz48_0 := blk_frozen BK119.out 0
      have hfz48_1 := blk_frozen BK119.out 1
      have hfz48_2 := blk_frozen BK119.out 2
      obtain ⟨Ao49, co49, eo49⟩ := Kd.R_slice HO_128002.out
      subst eo49
      go_wp2
      refine bodyPost_ret (results_ct rfl _ _ gb119 24 #[.int .i64 t120, .string (⟨#[]⟩ : ByteArray), .slice Ao49 x128002_1.length co49] (0, 0) _ rfl (by refine bkq ?_; refine blk_put (cs := #[.int .i64 t120, .string (⟨#[]⟩ : ByteArray), .slice none 0 0]) ?_ 2 _ rfl; refine bkq ?_; refine blk_put (cs := #[.int .i64 t120, .string x120001_1, .slice none 0 0]) ?_ 1 _ rfl; refine bkq ?_; refine blk_put (cs := #[.int .i64 x120000_1, .string x120001_1, .slice none 0 0]) ?_ 0 _ rfl; refine bkq ?_; exact BK119.out) Tryd.underlying24 rfl (by kernel_rfl)) rfl ?_
      exact ⟨_, q2_, by refine rkq ?_; exact Kd.R_mono (Kd.R_far (p := ⟨gb119, 2, none⟩) (Kd.R_far (p := ⟨gb119, 1, none⟩) (Kd.R_far (p := ⟨gb119, 0, none⟩) (Kd.R_mono HO_128002.out (fun k_ hk => (⟨hk, hk.1⟩ : _ ∧ k_ ≠ gb119))) (fun _ hk => hk.2) (.int .i64 t120)) (fun _ hk => hk.2) (.string (⟨#[]⟩ : ByteArray))) (fun _ hk => hk.2) (.slice Ao49 x128002_1.length co49)) (fun _ hk => trivial), q16_, q10_, q1_⟩
  ·replace c6 := Bool.eq_false_iff.mpr c6
   subst c6
   have H1 : (if 0 ≤ t124 then (if t124 ≤ t121 then (if t121 ≤ (t123.size : Int) then (some (t120, t123.extract (t124 : Int).toNat (t121 : Int).toNat, ([] : List (S24)), none, t123, t121, t125)) else (none)) else (none)) else (none)) = some (r1, r2, r3, r4, r5, r6, r7) := by rw [if_neg (show ¬ (false = true) by decide)] at H; exact H
   clear H
   have H := H1
   clear H1
   by_cases c50 : 0 ≤ t124
   ·rw [if_pos c50] at H
    have c50b0 := eq_true c50
    have c50b1 : decide (0 ≤ t124) = true := decide_eq_true c50
    clear c50
    by_cases c51 : t124 ≤ t121
    ·rw [if_pos c51] at H
     have c51b0 := eq_true c51
     have c51b1 : decide (t124 ≤ t121) = true := decide_eq_true c51
     clear c51
     by_cases c52 : t121 ≤ (t123.size : Int)
     ·rw [if_pos c52] at H
      have c52b0 := eq_true c52
      have c52b1 : decide (t121 ≤ (t123.size : Int)) = true := decide_eq_true c52
      clear c52
      simp only [Option.some.injEq, Prod.mk.injEq] at H
      obtain ⟨rfl, rfl, rfl, rfl, rfl, rfl, rfl⟩ := H
      go_enter Tryd.func44, Tryd.ntmps44
      try go_wp2_with (first | ((with_reducible refine gate_dst (N := 6) rfl ?_); refine box_event ?hg (N := 6) ?hd (cs := #[.int .i64 0, .string (⟨#[]⟩ : ByteArray), .slice none 0 0]) (t := 24) ?hr ?_; (case hd => rfl); (case hg => rfl); (case hr => first | (go_simp; done) | (go_simp; rfl)); intro gb119 hg w53 hbox hb; have n0_ := Aside0.mk (IsS74.below q7_ hb); have n1_ := Aside0.mk (KeepBut.trans q1_ (KeepBut.of_below hb g none) (.inl rfl)); have n2_ := Aside0.mk (below_step q5_ hb); have n3_ := Aside0.mk (hbox); have n4_ := Aside0.mk ((by rw [hg]; exact (keep_size (w := w) (g := g) (row := none) q1_) : w.heap.size ≤ gb119)); have n5_ := Aside0.mk ((Nat.le_trans HW0.out (by rw [hg]; exact (keep_size (w := w) (g := g) (row := none) q1_) : w.heap.size ≤ gb119) : w0.heap.size ≤ gb119)); have n6_ := Aside0.mk ((by rw [hg]; exact Nat.ne_of_lt (IsS74.lt (show IsS74 w0 _ g s0_0 s0_1 s0_2 from q7_)) : g ≠ gb119)); have n7_ := Aside0.mk ((by rw [hg]; exact Nat.ne_of_gt (IsS74.lt (show IsS74 w0 _ g s0_0 s0_1 s0_2 from q7_)) : gb119 ≠ g)); clear HI0; clear HK; clear HB; have HI0 := n0_; have HK := n1_; have HB := n2_; have BK119 := n3_; have GW119 := n4_; have GE119 := n5_; have NB0_119 := n6_; have NB119_0 := n7_; clear n0_ n1_ n2_ n3_ n4_ n5_ n6_ n7_; clear hb hbox hg) | ((with_reducible refine gate_callee (f := 59) rfl ?_); refine goesL_ (some 18) rfl rfl Tryd.func59 (by kernel_rfl) rfl #[.pointer (some ⟨g, 0, none⟩), .int .i64 a1, .int .i64 a2] rfl argq ?_; (with_reducible refine (tlv_reader_head.calls (G := G) g s0_0 s0_1 s0_2 a1 a2 t120 t121 none t123 t124 t125 w0 _ ?side1 ?side2 ?side3 A4.out).mono ?_); (case side1 => repeat (first | (with_reducible first | exact HI0.out | apply IsS74.alloc | apply IsS74.drewN | apply IsS74.drew | apply IsS74.set_0 | apply IsS74.set_1 | apply IsS74.set_2 | refine IsS74.far ?_ NB0_119.out _) | exact HI0.out | refine IsS74.far (f0 := ?f0) ?_ NB0_119.out _ | refine IsS74.far (f1 := ?f1) ?_ NB0_119.out _ | refine IsS74.far (f2 := ?f2) ?_ NB0_119.out _ | refine IsS74.far (f0 := ?f0) (f1 := ?f1) ?_ NB0_119.out _ | refine IsS74.far (f0 := ?f0) (f2 := ?f2) ?_ NB0_119.out _ | refine IsS74.far (f1 := ?f1) (f2 := ?f2) ?_ NB0_119.out _)); (case side2 => repeat (first | (with_reducible first | exact HB.out | apply below_alloc | apply pw_below_drewN | apply below_drew1 | refine below_set ?_ (IsS74.ge HI0.out) | refine below_set ?_ (Aside0.out (by assumption))) | exact HB.out)); (case side3 => first | exact hG | exact GW.below hG q10_); rintro e w54 ⟨rfl, hi, hb, hk⟩; refine ⟨_, rfl, ?_⟩; have n0_ := Aside0.mk (KeepBut.blk hk (g' := gb119) (o := .cells #[.int .i64 0, .string (⟨#[]⟩ : ByteArray), .slice none 0 0] 24 (0, 0)) (bkq BK119.out) NB119_0.out (by simp)); have n1_ := Aside0.mk (KeepBut.trans q1_ hk (.inl rfl)); have n2_ := Aside0.mk (hb); have n3_ := Aside0.mk (hi); clear BK119; clear HK; clear HB; clear HI0; have BK119 := n0_; have HK := n1_; have HB := n2_; have HI0 := n3_; clear n0_ n1_ n2_ n3_; (try clear hb); (try clear hb2); (try clear hk); (try clear hi); (try simp only [eW])) | ((with_reducible refine gate_dst (N := 11) rfl ?_); refine box_event ?hg (N := 11) ?hd (cs := #[.int .i64 0, .string (⟨#[]⟩ : ByteArray), .slice none 0 0]) (t := 24) ?hr ?_; (case hd => rfl); (case hg => rfl); (case hr => first | (go_simp; done) | (go_simp; rfl)); intro gb127 hg w55 hbox hb; have n0_ := Aside0.mk (IsS74.below q20_ hb); have n1_ := Aside0.mk (blk_below (g := gb119) (o := .cells #[.int .i64 0, .string (⟨#[]⟩ : ByteArray), .slice none 0 0] 24 (0, 0)) (bkq BK119.out) hb); have n2_ := Aside0.mk (KeepBut.trans q1_ (KeepBut.of_below hb g none) (.inl rfl)); have n3_ := Aside0.mk (below_step q10_ hb); have n4_ := Aside0.mk (hbox); have n5_ := Aside0.mk ((by rw [hg]; exact (keep_size (w := w) (g := g) (row := none) q1_) : w.heap.size ≤ gb127)); have n6_ := Aside0.mk ((Nat.le_trans HW0.out (by rw [hg]; exact (keep_size (w := w) (g := g) (row := none) q1_) : w.heap.size ≤ gb127) : w0.heap.size ≤ gb127)); have n7_ := Aside0.mk ((by rw [hg]; exact Nat.ne_of_lt (blk_lt (g := gb119) (o := .cells #[.int .i64 0, .string (⟨#[]⟩ : ByteArray), .slice none 0 0] 24 (0, 0)) (bkq BK119.out)) : gb119 ≠ gb127)); have n8_ := Aside0.mk ((by rw [hg]; exact Nat.ne_of_gt (blk_lt (g := gb119) (o := .cells #[.int .i64 0, .string (⟨#[]⟩ : ByteArray), .slice none 0 0] 24 (0, 0)) (bkq BK119.out)) : gb127 ≠ gb119)); have n9_ := Aside0.mk ((by rw [hg]; exact Nat.ne_of_lt (IsS74.lt (show IsS74 w0 _ g t123 t124 t125 from q20_)) : g ≠ gb127)); have n10_ := Aside0.mk ((by rw [hg]; exact Nat.ne_of_gt (IsS74.lt (show IsS74 w0 _ g t123 t124 t125 from q20_)) : gb127 ≠ g)); clear HI0; clear BK119; clear HK; clear HB; have HI0 := n0_; have BK119 := n1_; have HK := n2_; have HB := n3_; have BK127 := n4_; have GW127 := n5_; have GE127 := n6_; have NB119_127 := n7_; have NB127_119 := n8_; have NB0_127 := n9_; have NB127_0 := n10_; clear n0_ n1_ n2_ n3_ n4_ n5_ n6_ n7_ n8_ n9_ n10_; clear hb hbox hg; have hnb56 := NB127_119.out; have hnc56 := NB119_127.out; have hnb57 := NB127_0.out; have hnc57 := NB0_127.out; have hcz58_0 : w55.cell? ⟨gb127, 0, none⟩ = some (.int .i64 0) := (blk_cell BK127.out 0).trans rfl; have hcz58_1 : w55.cell? ⟨gb127, 1, none⟩ = some (.string (⟨#[]⟩ : ByteArray)) := (blk_cell BK127.out 1).trans rfl; have hcz58_2 : w55.cell? ⟨gb127, 2, none⟩ = some (.slice none 0 0) := (blk_cell BK127.out 2).trans rfl; have hfz58_0 := blk_frozen BK127.out 0; have hfz58_1 := blk_frozen BK127.out 1; have hfz58_2 := blk_frozen BK127.out 2) | ((with_reducible refine gate_callee (f := 60) rfl ?_); refine goesL_ (some 29) rfl rfl Tryd.func60 (by kernel_rfl) rfl #[.int .i64 t120] rfl argq ?_; (with_reducible refine (tlv_isInner.calls t120 false _ A5.out).mono ?_); rintro e w' ⟨rfl, ⟨nd, rfl⟩⟩; refine ⟨_, rfl, ?_⟩))
      have n0_ : Aside0 ((((w55.setCell ⟨gb127, 0, none⟩ (.int .i64 t120)).setCell ⟨gb127, 1, none⟩ (.string (⟨#[]⟩ : ByteArray))).setCell ⟨gb127, 2, none⟩ (.slice none 0 0)).heap[gb119]? = some (.cells #[.int .i64 0, .string (⟨#[]⟩ : ByteArray), .slice none 0 0] 24 (0, 0))) := ⟨by refine bkq ?_; refine blk_far ?_ NB119_127.out _; refine bkq ?_; refine blk_far ?_ NB119_127.out _; refine bkq ?_; refine blk_far ?_ NB119_127.out _; refine bkq ?_; exact BK119.out⟩
      have n1_ : Aside0 ((((w55.setCell ⟨gb127, 0, none⟩ (.int .i64 t120)).setCell ⟨gb127, 1, none⟩ (.string (⟨#[]⟩ : ByteArray))).setCell ⟨gb127, 2, none⟩ (.slice none 0 0)).heap[gb127]? = some (.cells #[.int .i64 t120, .string (⟨#[]⟩ : ByteArray), .slice none 0 0] 24 (0, 0))) := ⟨by refine bkq ?_; refine blk_put (cs := #[.int .i64 t120, .string (⟨#[]⟩ : ByteArray), .slice none 0 0]) ?_ 2 _ rfl; refine bkq ?_; refine blk_put (cs := #[.int .i64 t120, .string (⟨#[]⟩ : ByteArray), .slice none 0 0]) ?_ 1 _ rfl; refine bkq ?_; refine blk_put (cs := #[.int .i64 0, .string (⟨#[]⟩ : ByteArray), .slice none 0 0]) ?_ 0 _ rfl; refine bkq ?_; exact BK127.out⟩
      have n2_ : Aside0 (IsS74 w0 (((w55.setCell ⟨gb127, 0, none⟩ (.int .i64 t120)).setCell ⟨gb127, 1, none⟩ (.string (⟨#[]⟩ : ByteArray))).setCell ⟨gb127, 2, none⟩ (.slice none 0 0)) g t123 t124 t125) := ⟨q16_⟩
      have n3_ : Aside0 (KeepBut w (((w55.setCell ⟨gb127, 0, none⟩ (.int .i64 t120)).setCell ⟨gb127, 1, none⟩ (.string (⟨#[]⟩ : ByteArray))).setCell ⟨gb127, 2, none⟩ (.slice none 0 0)) g none) := ⟨q1_⟩
      have n4_ : Aside0 (Below w0.heap.size w0 (((w55.setCell ⟨gb127, 0, none⟩ (.int .i64 t120)).setCell ⟨gb127, 1, none⟩ (.string (⟨#[]⟩ : ByteArray))).setCell ⟨gb127, 2, none⟩ (.slice none 0 0))) := ⟨q10_⟩
      (try clear BK119)
      (try clear BK127)
      (try clear HI0)
      (try clear HK)
      (try clear HB)
      generalize (((w55.setCell ⟨gb127, 0, none⟩ (.int .i64 t120)).setCell ⟨gb127, 1, none⟩ (.string (⟨#[]⟩ : ByteArray))).setCell ⟨gb127, 2, none⟩ (.slice none 0 0)) = w59 at n0_ n1_ n2_ n3_ n4_ ⊢
      have BK119 := n0_
      have BK127 := n1_
      have HI0 := n2_
      have HK := n3_
      have HB := n4_
      clear n0_ n1_ n2_ n3_ n4_
      (try (rw [drewN_self w59]; generalize hq_ : World.drewN w59 _ = w59; have n0_ : Aside0 (w59.heap[gb119]? = some (.cells #[.int .i64 0, .string (⟨#[]⟩ : ByteArray), .slice none 0 0] 24 (0, 0))) := ⟨by rw [← hq_]; exact (bkq BK119.out)⟩; have n1_ : Aside0 (w59.heap[gb127]? = some (.cells #[.int .i64 t120, .string (⟨#[]⟩ : ByteArray), .slice none 0 0] 24 (0, 0))) := ⟨by rw [← hq_]; exact (bkq BK127.out)⟩; have n2_ : Aside0 (IsS74 w0 w59 g t123 t124 t125) := ⟨by rw [← hq_]; exact q16_⟩; have n3_ : Aside0 (KeepBut w w59 g none) := ⟨by rw [← hq_]; exact q1_⟩; have n4_ : Aside0 (Below w0.heap.size w0 w59) := ⟨by rw [← hq_]; exact q10_⟩; clear BK119 BK127 HI0 HK HB hq_; have BK119 := n0_; have BK127 := n1_; have HI0 := n2_; have HK := n3_; have HB := n4_; clear n0_ n1_ n2_ n3_ n4_))
      have n0_ := Aside0.mk (blk_drew BK119.out)
      have n1_ := Aside0.mk (blk_drew BK127.out)
      have n2_ := Aside0.mk (IsS74.drew HI0.out)
      have n3_ := Aside0.mk (keep_drew HK.out)
      have n4_ := Aside0.mk (below_drew1 HB.out)
      clear BK119
      clear BK127
      clear HI0
      clear HK
      clear HB
      have BK119 := n0_
      have BK127 := n1_
      have HI0 := n2_
      have HK := n3_
      have HB := n4_
      clear n0_ n1_ n2_ n3_ n4_
      refine start_ (n := 20) (S := fun w' => w'.cell? ⟨g, 0, none⟩ = some (.string t123) ∧ w'.cell? ⟨g, 1, none⟩ = some (.int .i64 t124) ∧ w'.cell? ⟨g, 2, none⟩ = some (.int .i64 t125)) (ds := [19]) #[false, false, false, false, false, false, false, false, false, false, false, false, false, false, false, false, false, false, false, false] (by kernel_rfl) rfl rfl ⟨(cellS74_0 HI0.out.1), (cellS74_1 HI0.out.1), (cellS74_2 HI0.out.1)⟩ (fun hHeld => ?_); refine with_tabW tlv_reader_tree.tab6 tlv_reader_tree.bits6 (fun HT_ HW_ => ?_)
      generalize w59.drew = w60 at BK119 BK127 HI0 HK HB hHeld ⊢
      refine p_ 0 (some 31) ?_
      refine p_ 1 (some 32) ?_
      refine p_ 2 (some 33) ?_
      refine p_ 3 (some 34) ?_
      refine p_ 4 (some 35) ?_
      refine p_ 6 (some 37) ?_
      refine p_ 7 (some 38) ?_
      refine p_ 8 (some 39) ?_
      refine p_ 9 (some 40) ?_
      refine p_ 11 (some 42) ?_
      refine p_ 13 (some 44) ?_
      refine t0_ 5 (some 36) ?_
      refine t0_ 10 (some 41) ?_
      refine p_ 12 (some 43) ?_
      refine p_ 14 (some 45) ?_
      refine one_ (i := 15) (N := none) #[true, true, true, true, true, true, true, true, true, true, true, true, true, true, true, true, false, false, false, false] rfl rfl (one_of HT_.out (by kernel_rfl)) (by decide) (fun K hK => ?_)
      have hs61 : w60.cell? ⟨gb127, 1, none⟩ = some (.string (⟨#[]⟩ : ByteArray)) := (blk_cell BK127.out 1).trans rfl
      have hfs61 := blk_frozen BK127.out 1
      have hns61_0 := NB119_127.out
      have hms61_0 := NB127_119.out
      refine skip_ (w1 := ?_) (by rfl) rfl ?_ ?_
      rotate_left
      ·go_simp
       rfl
      refine hK.out _ _ ⟨((cell_far (p := ⟨gb127, _, none⟩) NB0_127.out _).trans (hHeld.1)), ((cell_far (p := ⟨gb127, _, none⟩) NB0_127.out _).trans (hHeld.2.1)), ((cell_far (p := ⟨gb127, _, none⟩) NB0_127.out _).trans (hHeld.2.2))⟩ (fun hHeld => ?_)
      clear hK K
      refine p_ 16 (some 46) ?_
      refine p_ 17 (some 47) ?_
      refine p_ 18 (some 48) ?_
      refine last_ (i := 19) (N := none) #[true, true, true, true, true, true, true, true, true, true, true, true, true, true, true, true, true, true, true, true] rfl rfl (one_of HT_.out (by kernel_rfl)) (by decide) (fun K hK => ?_)
      have hfs62 := blk_frozen HI0.out.1 1
      have hns62_0 := NB119_0.out
      have hns62_1 := NB127_0.out
      have hms62_0 := NB0_119.out
      have hms62_1 := NB0_127.out
      refine skip_ (w1 := ?_) (by rfl) rfl ?_ ?_
      rotate_left
      ·go_simp
       rfl
      refine hK.out _ _ ?_
      clear hK K
      refine done_ (done_of HT_.out (by kernel_rfl)) ?_
      have hcz63_0 : w60.cell? ⟨gb127, 0, none⟩ = some (.int .i64 t120) := (blk_cell BK127.out 0).trans rfl
      have hcz63_1 : w60.cell? ⟨gb127, 1, none⟩ = some (.string (⟨#[]⟩ : ByteArray)) := (blk_cell BK127.out 1).trans rfl
      have hcz63_2 : w60.cell? ⟨gb127, 2, none⟩ = some (.slice none 0 0) := (blk_cell BK127.out 2).trans rfl
      have hfz63_0 := blk_frozen BK127.out 0
      have hfz63_1 := blk_frozen BK127.out 1
      have hfz63_2 := blk_frozen BK127.out 2
      have hnb64 := NB119_0.out
      have hnc64 := NB0_119.out
      have hcz65_0 : w60.cell? ⟨gb119, 0, none⟩ = some (.int .i64 0) := (blk_cell BK119.out 0).trans rfl
      have hcz65_1 : w60.cell? ⟨gb119, 1, none⟩ = some (.string (⟨#[]⟩ : ByteArray)) := (blk_cell BK119.out 1).trans rfl
      have hcz65_2 : w60.cell? ⟨gb119, 2, none⟩ = some (.slice none 0 0) := (blk_cell BK119.out 2).trans rfl
      have hfz65_0 := blk_frozen BK119.out 0
      have hfz65_1 := blk_frozen BK119.out 1
      have hfz65_2 := blk_frozen BK119.out 2
      try go_wp2
      refine bodyPost_ret (results_ct rfl _ _ gb119 24 #[.int .i64 t120, .string (t123.extract (t124 : Int).toNat (t121 : Int).toNat), .slice none 0 0] (0, 0) _ rfl (by refine bkq ?_; refine blk_put (cs := #[.int .i64 t120, .string (t123.extract (t124 : Int).toNat (t121 : Int).toNat), .slice none 0 0]) ?_ 2 _ rfl; refine bkq ?_; refine blk_put (cs := #[.int .i64 t120, .string (⟨#[]⟩ : ByteArray), .slice none 0 0]) ?_ 1 _ rfl; refine bkq ?_; refine blk_put (cs := #[.int .i64 0, .string (⟨#[]⟩ : ByteArray), .slice none 0 0]) ?_ 0 _ rfl; refine bkq ?_; refine blk_far ?_ NB119_0.out _; refine bkq ?_; refine blk_far ?_ NB119_127.out _; refine bkq ?_; exact BK119.out) Tryd.underlying24 rfl (by kernel_rfl)) rfl ?_
      exact ⟨_, q2_, q8_, q16_, q10_, q1_⟩
     ·rw [if_neg c52] at H
      exact absurd H (by simp)
    ·rw [if_neg c51] at H
     exact absurd H (by simp)
   ·rw [if_neg c50] at H
    exact absurd H (by simp)
 ·have H1 : (some (0, (⟨#[]⟩ : ByteArray), ([] : List (S24)), some q126, t123, t124, t125)) = some (r1, r2, r3, r4, r5, r6, r7) := by rw [if_neg (show ¬ (some q126).isNone = true by simp)] at H; exact H
  clear H
  have H := H1
  clear H1
  try simp only [eW]
  simp only [Option.some.injEq, Prod.mk.injEq] at H
  obtain ⟨rfl, rfl, rfl, rfl, rfl, rfl, rfl⟩ := H
  go_enter Tryd.func44, Tryd.ntmps44
  go_wp2_with (first | ((with_reducible refine gate_dst (N := 6) rfl ?_); refine box_event ?hg (N := 6) ?hd (cs := #[.int .i64 0, .string (⟨#[]⟩ : ByteArray), .slice none 0 0]) (t := 24) ?hr ?_; (case hd => rfl); (case hg => rfl); (case hr => first | (go_simp; done) | (go_simp; rfl)); intro gb119 hg w66 hbox hb; have n0_ := Aside0.mk (IsS74.below q7_ hb); have n1_ := Aside0.mk (KeepBut.trans q1_ (KeepBut.of_below hb g none) (.inl rfl)); have n2_ := Aside0.mk (below_step q5_ hb); have n3_ := Aside0.mk (hbox); have n4_ := Aside0.mk ((by rw [hg]; exact (keep_size (w := w) (g := g) (row := none) q1_) : w.heap.size ≤ gb119)); have n5_ := Aside0.mk ((Nat.le_trans HW0.out (by rw [hg]; exact (keep_size (w := w) (g := g) (row := none) q1_) : w.heap.size ≤ gb119) : w0.heap.size ≤ gb119)); have n6_ := Aside0.mk ((by rw [hg]; exact Nat.ne_of_lt (IsS74.lt (show IsS74 w0 _ g s0_0 s0_1 s0_2 from q7_)) : g ≠ gb119)); have n7_ := Aside0.mk ((by rw [hg]; exact Nat.ne_of_gt (IsS74.lt (show IsS74 w0 _ g s0_0 s0_1 s0_2 from q7_)) : gb119 ≠ g)); clear HI0; clear HK; clear HB; have HI0 := n0_; have HK := n1_; have HB := n2_; have BK119 := n3_; have GW119 := n4_; have GE119 := n5_; have NB0_119 := n6_; have NB119_0 := n7_; clear n0_ n1_ n2_ n3_ n4_ n5_ n6_ n7_; clear hb hbox hg) | ((with_reducible refine gate_callee (f := 59) rfl ?_); refine goesL_ (some 18) rfl rfl Tryd.func59 (by kernel_rfl) rfl #[.pointer (some ⟨g, 0, none⟩), .int .i64 a1, .int .i64 a2] rfl argq ?_; (with_reducible refine (tlv_reader_head.calls (G := G) g s0_0 s0_1 s0_2 a1 a2 t120 t121 (some q126) t123 t124 t125 w0 _ ?side1 ?side2 ?side3 A4.out).mono ?_); (case side1 => repeat (first | (with_reducible first | exact HI0.out | apply IsS74.alloc | apply IsS74.drewN | apply IsS74.drew | apply IsS74.set_0 | apply IsS74.set_1 | apply IsS74.set_2 | refine IsS74.far ?_ NB0_119.out _) | exact HI0.out | refine IsS74.far (f0 := ?f0) ?_ NB0_119.out _ | refine IsS74.far (f1 := ?f1) ?_ NB0_119.out _ | refine IsS74.far (f2 := ?f2) ?_ NB0_119.out _ | refine IsS74.far (f0 := ?f0) (f1 := ?f1) ?_ NB0_119.out _ | refine IsS74.far (f0 := ?f0) (f2 := ?f2) ?_ NB0_119.out _ | refine IsS74.far (f1 := ?f1) (f2 := ?f2) ?_ NB0_119.out _)); (case side2 => repeat (first | (with_reducible first | exact HB.out | apply below_alloc | apply pw_below_drewN | apply below_drew1 | refine below_set ?_ (IsS74.ge HI0.out) | refine below_set ?_ (Aside0.out (by assumption))) | exact HB.out)); (case side3 => first | exact hG | exact GW.below hG q10_); rintro e w67 ⟨rfl, hi, hb, hk⟩; refine ⟨_, rfl, ?_⟩; have n0_ := Aside0.mk (KeepBut.blk hk (g' := gb119) (o := .cells #[.int .i64 0, .string (⟨#[]⟩ : ByteArray), .slice none 0 0] 24 (0, 0)) (bkq BK119.out) NB119_0.out (by simp)); have n1_ := Aside0.mk (KeepBut.trans q1_ hk (.inl rfl)); have n2_ := Aside0.mk (hb); have n3_ := Aside0.mk (hi); clear BK119; clear HK; clear HB; clear HI0; have BK119 := n0_; have HK := n1_; have HB := n2_; have HI0 := n3_; clear n0_ n1_ n2_ n3_; (try clear hb); (try clear hb2); (try clear hk); (try clear hi); (try simp only [eW]); have hnb68 := NB119_0.out; have hnc68 := NB0_119.out; have hcz69_0 : w67.cell? ⟨gb119, 0, none⟩ = some (.int .i64 0) := (blk_cell BK119.out 0).trans rfl; have hcz69_1 : w67.cell? ⟨gb119, 1, none⟩ = some (.string (⟨#[]⟩ : ByteArray)) := (blk_cell BK119.out 1).trans rfl; have hcz69_2 : w67.cell? ⟨gb119, 2, none⟩ = some (.slice none 0 0) := (blk_cell BK119.out 2).trans rfl; have hfz69_0 := blk_frozen BK119.out 0; have hfz69_1 := blk_frozen BK119.out 1; have hfz69_2 := blk_frozen BK119.out 2))
  refine bodyPost_ret (results_ct rfl _ _ gb119 24 #[.int .i64 0, .string (⟨#[]⟩ : ByteArray), .slice none 0 0] (0, 0) _ rfl (by refine bkq ?_; refine blk_put (cs := #[.int .i64 0, .string (⟨#[]⟩ : ByteArray), .slice none 0 0]) ?_ 2 _ rfl; refine bkq ?_; refine blk_put (cs := #[.int .i64 0, .string (⟨#[]⟩ : ByteArray), .slice none 0 0]) ?_ 1 _ rfl; refine bkq ?_; refine blk_put (cs := #[.int .i64 0, .string (⟨#[]⟩ : ByteArray), .slice none 0 0]) ?_ 0 _ rfl; refine bkq ?_; exact BK119.out) Tryd.underlying24 rfl (by kernel_rfl)) rfl ?_
  exact ⟨_, q2_, q8_, q20_, q10_, q1_⟩
end Go.Proofs.YthnddhgkjkpmfaaDoor.LTlvC
