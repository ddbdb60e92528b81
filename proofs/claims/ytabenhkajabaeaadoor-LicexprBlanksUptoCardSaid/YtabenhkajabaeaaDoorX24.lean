/-
  One text of the proof (own work): contracts of functions of the program, by the abstract machine.
-/
import Derived.Test.YtabenhkajabaeaaDoorChecked
import Derived.Test.YtabenhkajabaeaaDoorRows
import Derived.Test.YtabenhkajabaeaaDoorX23
import Derived.Test.YtabenhkajabaeaaDoorX21
set_option linter.unusedVariables false
set_option linter.unusedSimpArgs false
namespace Go.Ab
open Go Go.RowKit Go.Proofs
@[go_sem] theorem ty_size3 : tsize Tryd.prog 3 = (Option.some 1) := by kernel_rfl
@[go_sem] theorem ty_bytes3 : tbytes Tryd.prog 3 = (Option.some 8) := by kernel_rfl
@[go_sem] theorem ty_zero3 : tzero Tryd.prog 3 = (Option.some (Go.Value.int Go.IntKind.i64 0)) := by kernel_rfl
@[go_sem] theorem ty_agg3 : tagg Tryd.prog 3 = (Option.some Bool.false) := by kernel_rfl
@[go_sem] theorem ty_und3 : Program.underlying Tryd.prog 3 = (Option.some (Go.TypeDesc.int Go.IntKind.i64)) := by kernel_rfl
@[go_sem] theorem ty_elem3 : telem Tryd.prog 3 = Option.none := by kernel_rfl
@[go_sem] theorem ty_size4 : tsize Tryd.prog 4 = (Option.some 1) := by kernel_rfl
@[go_sem] theorem ty_bytes4 : tbytes Tryd.prog 4 = (Option.some 1) := by kernel_rfl
@[go_sem] theorem ty_zero4 : tzero Tryd.prog 4 = (Option.some (Go.Value.bool Bool.false)) := by kernel_rfl
@[go_sem] theorem ty_agg4 : tagg Tryd.prog 4 = (Option.some Bool.false) := by kernel_rfl
@[go_sem] theorem ty_und4 : Program.underlying Tryd.prog 4 = (Option.some Go.TypeDesc.bool) := by kernel_rfl
@[go_sem] theorem ty_elem4 : telem Tryd.prog 4 = Option.none := by kernel_rfl
@[go_sem] theorem ty_size5 : tsize Tryd.prog 5 = (Option.some 1) := by kernel_rfl
@[go_sem] theorem ty_bytes5 : tbytes Tryd.prog 5 = (Option.some 1) := by kernel_rfl
@[go_sem] theorem ty_zero5 : tzero Tryd.prog 5 = (Option.some (Go.Value.int Go.IntKind.u8 0)) := by kernel_rfl
@[go_sem] theorem ty_agg5 : tagg Tryd.prog 5 = (Option.some Bool.false) := by kernel_rfl
@[go_sem] theorem ty_und5 : Program.underlying Tryd.prog 5 = (Option.some (Go.TypeDesc.int Go.IntKind.u8)) := by kernel_rfl
@[go_sem] theorem ty_elem5 : telem Tryd.prog 5 = Option.none := by kernel_rfl
@[go_sem] theorem ty_size9 : tsize Tryd.prog 9 = (Option.some 1) := by kernel_rfl
@[go_sem] theorem ty_bytes9 : tbytes Tryd.prog 9 = (Option.some 16) := by kernel_rfl
@[go_sem] theorem ty_zero9 : tzero Tryd.prog 9 = (Option.some (Go.Value.string ⟨#[]⟩)) := by kernel_rfl
@[go_sem] theorem ty_agg9 : tagg Tryd.prog 9 = (Option.some Bool.false) := by kernel_rfl
@[go_sem] theorem ty_und9 : Program.underlying Tryd.prog 9 = (Option.some Go.TypeDesc.string) := by kernel_rfl
@[go_sem] theorem ty_elem9 : telem Tryd.prog 9 = Option.none := by kernel_rfl
@[go_sem] theorem ty_size23 : tsize Tryd.prog 23 = (Option.some 1) := by kernel_rfl
@[go_sem] theorem ty_bytes23 : tbytes Tryd.prog 23 = (Option.some 24) := by kernel_rfl
@[go_sem] theorem ty_zero23 : tzero Tryd.prog 23 = (Option.some (Go.Value.slice Option.none 0 0)) := by kernel_rfl
@[go_sem] theorem ty_agg23 : tagg Tryd.prog 23 = (Option.some Bool.false) := by kernel_rfl
@[go_sem] theorem ty_und23 : Program.underlying Tryd.prog 23 = (Option.some (Go.TypeDesc.slice 25)) := by kernel_rfl
@[go_sem] theorem ty_elem23 : telem Tryd.prog 23 = (Option.some 25) := by kernel_rfl
@[go_sem] theorem ty_size25 : tsize Tryd.prog 25 = (Option.some 4) := by kernel_rfl
@[go_sem] theorem ty_bytes25 : tbytes Tryd.prog 25 = (Option.some 64) := by kernel_rfl
@[go_sem] theorem ty_zero25 : tzero Tryd.prog 25 = (Option.some (Go.Value.agg #[(Go.Value.int Go.IntKind.i64 0), (Go.Value.string ⟨#[]⟩), (Go.Value.string ⟨#[]⟩), (Go.Value.slice Option.none 0 0)])) := by kernel_rfl
@[go_sem] theorem ty_agg25 : tagg Tryd.prog 25 = (Option.some Bool.true) := by kernel_rfl
@[go_sem] theorem ty_field25_0 : tfield Tryd.prog 25 0 = (Option.some ⟨"Kind", 3, 0, Bool.false, "", "", 0⟩) := by kernel_rfl
@[go_sem] theorem ty_field25_1 : tfield Tryd.prog 25 1 = (Option.some ⟨"Name", 9, 1, Bool.false, "", "", 8⟩) := by kernel_rfl
@[go_sem] theorem ty_field25_2 : tfield Tryd.prog 25 2 = (Option.some ⟨"Exception", 9, 2, Bool.false, "", "", 24⟩) := by kernel_rfl
@[go_sem] theorem ty_field25_3 : tfield Tryd.prog 25 3 = (Option.some ⟨"Kids", 23, 3, Bool.false, "", "", 40⟩) := by kernel_rfl
@[go_sem] theorem ty_build25 (parts : List (Nat × AV)) : abuild Tryd.prog 25 parts = (setCells [(Go.Ab.AV.data (Go.Ab.D.int Go.IntKind.i64 0)), (Go.Ab.AV.data (Go.Ab.D.str [])), (Go.Ab.AV.data (Go.Ab.D.str [])), Go.Ab.AV.nils] ([(0, 1), (1, 1), (2, 1), (3, 1)][·]?) parts).map mkAgg := abuild_of (z := (Go.Value.agg #[(Go.Value.int Go.IntKind.i64 0), (Go.Value.string ⟨#[]⟩), (Go.Value.string ⟨#[]⟩), (Go.Value.slice Option.none 0 0)])) (by kernel_rfl) (by kernel_rfl) (by kernel_rfl)
@[go_sem] theorem ty_size26 : tsize Tryd.prog 26 = (Option.some 1) := by kernel_rfl
@[go_sem] theorem ty_bytes26 : tbytes Tryd.prog 26 = (Option.some 8) := by kernel_rfl
@[go_sem] theorem ty_zero26 : tzero Tryd.prog 26 = (Option.some (Go.Value.int Go.IntKind.i64 0)) := by kernel_rfl
@[go_sem] theorem ty_agg26 : tagg Tryd.prog 26 = (Option.some Bool.false) := by kernel_rfl
@[go_sem] theorem ty_und26 : Program.underlying Tryd.prog 26 = (Option.some (Go.TypeDesc.int Go.IntKind.i64)) := by kernel_rfl
@[go_sem] theorem ty_elem26 : telem Tryd.prog 26 = Option.none := by kernel_rfl
@[go_sem] theorem ty_size30 : tsize Tryd.prog 30 = (Option.some 6) := by kernel_rfl
@[go_sem] theorem ty_bytes30 : tbytes Tryd.prog 30 = (Option.some 80) := by kernel_rfl
@[go_sem] theorem ty_zero30 : tzero Tryd.prog 30 = (Option.some (Go.Value.agg #[(Go.Value.int Go.IntKind.i64 0), (Go.Value.string ⟨#[]⟩), (Go.Value.string ⟨#[]⟩), (Go.Value.slice Option.none 0 0), (Go.Value.int Go.IntKind.i64 0), (Go.Value.int Go.IntKind.i64 0)])) := by kernel_rfl
@[go_sem] theorem ty_agg30 : tagg Tryd.prog 30 = (Option.some Bool.true) := by kernel_rfl
@[go_sem] theorem ty_field30_0 : tfield Tryd.prog 30 0 = (Option.some ⟨"Expr", 25, 0, Bool.false, "", "", 0⟩) := by kernel_rfl
@[go_sem] theorem ty_field30_1 : tfield Tryd.prog 30 1 = (Option.some ⟨"At", 3, 4, Bool.false, "", "", 64⟩) := by kernel_rfl
@[go_sem] theorem ty_field30_2 : tfield Tryd.prog 30 2 = (Option.some ⟨"Error", 26, 5, Bool.false, "", "", 72⟩) := by kernel_rfl
@[go_sem] theorem ty_build30 (parts : List (Nat × AV)) : abuild Tryd.prog 30 parts = (setCells [(Go.Ab.AV.data (Go.Ab.D.int Go.IntKind.i64 0)), (Go.Ab.AV.data (Go.Ab.D.str [])), (Go.Ab.AV.data (Go.Ab.D.str [])), Go.Ab.AV.nils, (Go.Ab.AV.data (Go.Ab.D.int Go.IntKind.i64 0)), (Go.Ab.AV.data (Go.Ab.D.int Go.IntKind.i64 0))] ([(0, 4), (4, 1), (5, 1)][·]?) parts).map mkAgg := abuild_of (z := (Go.Value.agg #[(Go.Value.int Go.IntKind.i64 0), (Go.Value.string ⟨#[]⟩), (Go.Value.string ⟨#[]⟩), (Go.Value.slice Option.none 0 0), (Go.Value.int Go.IntKind.i64 0), (Go.Value.int Go.IntKind.i64 0)])) (by kernel_rfl) (by kernel_rfl) (by kernel_rfl)
@[go_sem] theorem ty_size40 : tsize Tryd.prog 40 = (Option.some 1) := by kernel_rfl
@[go_sem] theorem ty_bytes40 : tbytes Tryd.prog 40 = (Option.some 24) := by kernel_rfl
@[go_sem] theorem ty_zero40 : tzero Tryd.prog 40 = (Option.some (Go.Value.slice Option.none 0 0)) := by kernel_rfl
@[go_sem] theorem ty_agg40 : tagg Tryd.prog 40 = (Option.some Bool.false) := by kernel_rfl
@[go_sem] theorem ty_und40 : Program.underlying Tryd.prog 40 = (Option.some (Go.TypeDesc.slice 4)) := by kernel_rfl
@[go_sem] theorem ty_elem40 : telem Tryd.prog 40 = (Option.some 4) := by kernel_rfl
@[go_sem] theorem ty_size41 : tsize Tryd.prog 41 = (Option.some 1) := by kernel_rfl
@[go_sem] theorem ty_bytes41 : tbytes Tryd.prog 41 = (Option.some 24) := by kernel_rfl
@[go_sem] theorem ty_zero41 : tzero Tryd.prog 41 = (Option.some (Go.Value.slice Option.none 0 0)) := by kernel_rfl
@[go_sem] theorem ty_agg41 : tagg Tryd.prog 41 = (Option.some Bool.false) := by kernel_rfl
@[go_sem] theorem ty_und41 : Program.underlying Tryd.prog 41 = (Option.some (Go.TypeDesc.slice 5)) := by kernel_rfl
@[go_sem] theorem ty_elem41 : telem Tryd.prog 41 = (Option.some 5) := by kernel_rfl
@[go_sem] theorem ty_size50 : tsize Tryd.prog 50 = (Option.some 1) := by kernel_rfl
@[go_sem] theorem ty_bytes50 : tbytes Tryd.prog 50 = (Option.some 8) := by kernel_rfl
@[go_sem] theorem ty_zero50 : tzero Tryd.prog 50 = (Option.some (Go.Value.pointer Option.none)) := by kernel_rfl
@[go_sem] theorem ty_agg50 : tagg Tryd.prog 50 = (Option.some Bool.false) := by kernel_rfl
@[go_sem] theorem ty_und50 : Program.underlying Tryd.prog 50 = (Option.some (Go.TypeDesc.pointer 52)) := by kernel_rfl
@[go_sem] theorem ty_elem50 : telem Tryd.prog 50 = Option.none := by kernel_rfl
@[go_sem] theorem ty_size52 : tsize Tryd.prog 52 = (Option.some 5) := by kernel_rfl
@[go_sem] theorem ty_bytes52 : tbytes Tryd.prog 52 = (Option.some 48) := by kernel_rfl
@[go_sem] theorem ty_zero52 : tzero Tryd.prog 52 = (Option.some (Go.Value.agg #[(Go.Value.string ⟨#[]⟩), (Go.Value.int Go.IntKind.i64 0), (Go.Value.int Go.IntKind.i64 0), (Go.Value.int Go.IntKind.i64 0), (Go.Value.int Go.IntKind.i64 0)])) := by kernel_rfl
@[go_sem] theorem ty_agg52 : tagg Tryd.prog 52 = (Option.some Bool.true) := by kernel_rfl
@[go_sem] theorem ty_field52_0 : tfield Tryd.prog 52 0 = (Option.some ⟨"s", 9, 0, Bool.false, "", "licit/licexpr", 0⟩) := by kernel_rfl
@[go_sem] theorem ty_field52_1 : tfield Tryd.prog 52 1 = (Option.some ⟨"at", 3, 1, Bool.false, "", "licit/licexpr", 16⟩) := by kernel_rfl
@[go_sem] theorem ty_field52_2 : tfield Tryd.prog 52 2 = (Option.some ⟨"open", 3, 2, Bool.false, "", "licit/licexpr", 24⟩) := by kernel_rfl
@[go_sem] theorem ty_field52_3 : tfield Tryd.prog 52 3 = (Option.some ⟨"e", 26, 3, Bool.false, "", "licit/licexpr", 32⟩) := by kernel_rfl
@[go_sem] theorem ty_field52_4 : tfield Tryd.prog 52 4 = (Option.some ⟨"here", 3, 4, Bool.false, "", "licit/licexpr", 40⟩) := by kernel_rfl
@[go_sem] theorem ty_build52 (parts : List (Nat × AV)) : abuild Tryd.prog 52 parts = (setCells [(Go.Ab.AV.data (Go.Ab.D.str [])), (Go.Ab.AV.data (Go.Ab.D.int Go.IntKind.i64 0)), (Go.Ab.AV.data (Go.Ab.D.int Go.IntKind.i64 0)), (Go.Ab.AV.data (Go.Ab.D.int Go.IntKind.i64 0)), (Go.Ab.AV.data (Go.Ab.D.int Go.IntKind.i64 0))] ([(0, 1), (1, 1), (2, 1), (3, 1), (4, 1)][·]?) parts).map mkAgg := abuild_of (z := (Go.Value.agg #[(Go.Value.string ⟨#[]⟩), (Go.Value.int Go.IntKind.i64 0), (Go.Value.int Go.IntKind.i64 0), (Go.Value.int Go.IntKind.i64 0), (Go.Value.int Go.IntKind.i64 0)])) (by kernel_rfl) (by kernel_rfl) (by kernel_rfl)
@[go_sem] theorem ty_size54 : tsize Tryd.prog 54 = (Option.some 1) := by kernel_rfl
@[go_sem] theorem ty_bytes54 : tbytes Tryd.prog 54 = (Option.some 8) := by kernel_rfl
@[go_sem] theorem ty_zero54 : tzero Tryd.prog 54 = (Option.some Go.Value.nilFunc) := by kernel_rfl
@[go_sem] theorem ty_agg54 : tagg Tryd.prog 54 = (Option.some Bool.false) := by kernel_rfl
@[go_sem] theorem ty_und54 : Program.underlying Tryd.prog 54 = (Option.some (Go.TypeDesc.func #[] #[25] Bool.false)) := by kernel_rfl
@[go_sem] theorem ty_elem54 : telem Tryd.prog 54 = Option.none := by kernel_rfl
@[go_sem] theorem ty_size60 : tsize Tryd.prog 60 = (Option.some 1) := by kernel_rfl
@[go_sem] theorem ty_bytes60 : tbytes Tryd.prog 60 = (Option.some 8) := by kernel_rfl
@[go_sem] theorem ty_zero60 : tzero Tryd.prog 60 = (Option.some Go.Value.nilFunc) := by kernel_rfl
@[go_sem] theorem ty_agg60 : tagg Tryd.prog 60 = (Option.some Bool.false) := by kernel_rfl
@[go_sem] theorem ty_und60 : Program.underlying Tryd.prog 60 = (Option.some (Go.TypeDesc.func #[34] #[] Bool.false)) := by kernel_rfl
@[go_sem] theorem ty_elem60 : telem Tryd.prog 60 = Option.none := by kernel_rfl
@[go_sem] theorem ty_size61 : tsize Tryd.prog 61 = (Option.some 1) := by kernel_rfl
@[go_sem] theorem ty_bytes61 : tbytes Tryd.prog 61 = (Option.some 8) := by kernel_rfl
@[go_sem] theorem ty_zero61 : tzero Tryd.prog 61 = (Option.some Go.Value.nilFunc) := by kernel_rfl
@[go_sem] theorem ty_agg61 : tagg Tryd.prog 61 = (Option.some Bool.false) := by kernel_rfl
@[go_sem] theorem ty_und61 : Program.underlying Tryd.prog 61 = (Option.some (Go.TypeDesc.func #[34] #[] Bool.false)) := by kernel_rfl
@[go_sem] theorem ty_elem61 : telem Tryd.prog 61 = Option.none := by kernel_rfl
@[go_sem] theorem ty_size83 : tsize Tryd.prog 83 = (Option.some 1) := by kernel_rfl
@[go_sem] theorem ty_bytes83 : tbytes Tryd.prog 83 = (Option.some 24) := by kernel_rfl
@[go_sem] theorem ty_zero83 : tzero Tryd.prog 83 = (Option.some (Go.Value.slice Option.none 0 0)) := by kernel_rfl
@[go_sem] theorem ty_agg83 : tagg Tryd.prog 83 = (Option.some Bool.false) := by kernel_rfl
@[go_sem] theorem ty_und83 : Program.underlying Tryd.prog 83 = (Option.some (Go.TypeDesc.slice 9)) := by kernel_rfl
@[go_sem] theorem ty_elem83 : telem Tryd.prog 83 = (Option.some 9) := by kernel_rfl
@[go_sem] theorem ty_size85 : tsize Tryd.prog 85 = (Option.some 1) := by kernel_rfl
@[go_sem] theorem ty_bytes85 : tbytes Tryd.prog 85 = (Option.some 8) := by kernel_rfl
@[go_sem] theorem ty_zero85 : tzero Tryd.prog 85 = (Option.some Go.Value.nilFunc) := by kernel_rfl
@[go_sem] theorem ty_agg85 : tagg Tryd.prog 85 = (Option.some Bool.false) := by kernel_rfl
@[go_sem] theorem ty_und85 : Program.underlying Tryd.prog 85 = (Option.some (Go.TypeDesc.func #[25, 34] #[4] Bool.false)) := by kernel_rfl
@[go_sem] theorem ty_elem85 : telem Tryd.prog 85 = Option.none := by kernel_rfl
end Go.Ab
namespace Go.Ab
open Go Go.RowKit Go.Proofs
set_option maxRecDepth 4000
set_option maxHeartbeats 1000000
theorem mixedOK : Tryd.prog.follows .mixedOrders = true := by kernel_rfl
@[go_sem] abbrev i64 (n : Int) : D := .int .i64 n
@[go_sem] abbrev u8 (n : Int) : D := .int .u8 n
abbrev ints (l : List Int) : D := .list (l.map i64)
def Γ0 : FuncId → Option CSpec := fun _ => none
theorem Γ0_ok : ∀ f s, Γ0 f = some s → SpecOK Tryd.prog f s := fun _ _ h => by cases h
def Γl : List (FuncId × CSpec) → FuncId → Option CSpec
  | [], _ => none
  | (k, s) :: r, f => if f = k then some s else Γl r f
attribute [go_sem] Γl
theorem Γn : ∀ f s, Γl [] f = some s → SpecOK Tryd.prog f s := fun _ _ h => by cases h
theorem Γcons {k : FuncId} {s : CSpec} {r : List (FuncId × CSpec)} (h : SpecOK Tryd.prog k s) (hr : ∀ f s, Γl r f = some s → SpecOK Tryd.prog f s) : ∀ f s', Γl ((k, s) :: r) f = some s' → SpecOK Tryd.prog f s' := fun f s' hf => by
  simp only [Γl] at hf
  split at hf
  · rename_i hk; subst hk; cases hf; exact h
  · exact hr f s' hf
theorem Γp {k : FuncId} {fl : Bool} {g : List D → Option D} {r : List (FuncId × CSpec)} (h : PureOK Tryd.prog k fl g) (hr : ∀ f s, Γl r f = some s → SpecOK Tryd.prog f s) : ∀ f s', Γl ((k, .pure fl g) :: r) f = some s' → SpecOK Tryd.prog f s' := Γcons h hr
theorem Γq {k : FuncId} {g : List AV → List Obj → Option (AV × List Obj)} {r : List (FuncId × CSpec)} (h : LocOK Tryd.prog k g) (hr : ∀ f s, Γl r f = some s → SpecOK Tryd.prog f s) : ∀ f s', Γl ((k, .loc g) :: r) f = some s' → SpecOK Tryd.prog f s' := Γcons h hr
theorem pure_void {X : Type} {enc : X → List D} {dom : X → Prop} {out : X → D} {P : Program} {f : FuncId} {fl : Bool} (h : ∀ x, ¬ dom x) : PureOK P f fl (encSpec enc dom out) := fun ds d hd => by
  obtain ⟨x, _, hx, _⟩ := encSpec_some hd
  exact absurd hx (h x)
@[go_sem] theorem dec_true {h : Decidable True} : @decide True h = true := by simp
theorem map_ie {α : Type} {e : α → D} (he : ∀ a b, e a = e b → a = b) (l m : List α) : (l.map e = m.map e) = (l = m) := propext ⟨fun h => List.map_inj_right he |>.1 h, fun h => by rw [h]⟩
theorem strs_ie (a b : List (List UInt8)) : (a.map D.str = b.map D.str) = (a = b) := map_ie (fun x y h => by simpa using h) a b
inductive LX where
  | mk (kind : Int) (name exc : List UInt8) (kids : List LX)
def LX.kind : LX → Int
  | .mk k _ _ _ => k
def LX.name : LX → List UInt8
  | .mk _ n _ _ => n
def LX.exc : LX → List UInt8
  | .mk _ _ e _ => e
def LX.kids : LX → List LX
  | .mk _ _ _ l => l
theorem LX.eta (x : LX) : LX.mk x.kind x.name x.exc x.kids = x := by cases x; rfl
theorem LX.ind {p : LX → Prop} (h : ∀ k n e l, (∀ x ∈ l, p x) → p (.mk k n e l)) (x : LX) : p x := by
  refine LX.rec (motive_1 := p) (motive_2 := fun l => ∀ x ∈ l, p x) (fun k n e l hl => h k n e l hl) (fun x hx => by cases hx) (fun y l hy hl x hx => ?_) x
  rcases List.mem_cons.1 hx with rfl | hx
  · exact hy
  · exact hl x hx
mutual
def eX : LX → D
  | .mk k n e l => .agg [i64 k, .str n, .str e, .list (eXs l)]
def eXs : List LX → List D
  | [] => []
  | x :: l => eX x :: eXs l
end
theorem eXs_map : ∀ l : List LX, eXs l = l.map eX
  | [] => by simp [eXs]
  | x :: l => by rw [eXs, eXs_map l, List.map_cons]
@[go_sem] theorem eX_eq (x : LX) : eX x = .agg [.int .i64 x.kind, .str x.name, .str x.exc, .list (x.kids.map eX)] := by
  cases x
  rw [eX, eXs_map]
  rfl
theorem eX_inj (a : LX) : ∀ b, eX a = eX b → a = b := by
  refine LX.ind (p := fun a => ∀ b, eX a = eX b → a = b) (fun k n e l ih b h => ?_) a
  cases b with
  | mk k' n' e' l' =>
    simp only [eX, D.agg.injEq, List.cons.injEq, D.int.injEq, D.str.injEq, D.list.injEq, true_and, and_true, eXs_map] at h
    obtain ⟨rfl, rfl, rfl, h⟩ := h
    have : l = l' := by
      clear k n e
      induction l generalizing l' with
      | nil => cases l' with
        | nil => rfl
        | cons y r => simp at h
      | cons x l il => cases l' with
        | nil => simp at h
        | cons y r =>
          simp only [List.map_cons, List.cons.injEq] at h
          rw [ih x (by simp) y h.1, il (fun z hz => ih z (by simp [hz])) r h.2]
    rw [this]
theorem eX_ie (a b : LX) : (eX a = eX b) = (a = b) := propext ⟨eX_inj a b, fun h => by rw [h]⟩
theorem eXs_ie (a b : List LX) : (a.map eX = b.map eX) = (a = b) := map_ie eX_inj a b
theorem inj_ie : (∀ a b : LX, (eX a = eX b) = (a = b)) ∧ (∀ a b : List LX, (a.map eX = b.map eX) = (a = b)) ∧ (∀ a b : List (List UInt8), (a.map D.str = b.map D.str) = (a = b)) := ⟨eX_ie, eXs_ie, strs_ie⟩
def LX.hgt : LX → Nat
  | .mk _ _ _ l => hgts l + 1
where hgts : List LX → Nat
  | [] => 0
  | x :: l => max (LX.hgt x) (hgts l)
theorem LX.hgt_kid {x y : LX} (h : y ∈ x.kids) : y.hgt < x.hgt := by
  cases x with
  | mk k n e l =>
    simp only [LX.kids] at h
    simp only [LX.hgt]
    induction l with
    | nil => cases h
    | cons z l ih =>
      simp only [LX.hgt.hgts]
      rcases List.mem_cons.1 h with rfl | h
      · omega
      · have := ih h; omega
theorem LX.hgt_pos (x : LX) : 1 ≤ x.hgt := by cases x; simp only [LX.hgt]; omega
def LX.size : LX → Nat
  | .mk _ _ _ l => sizes l + 1
where sizes : List LX → Nat
  | [] => 0
  | x :: l => LX.size x + sizes l
theorem LX.size_eq (x : LX) : x.size = LX.size.sizes x.kids + 1 := by cases x; simp [LX.size, LX.kids]
theorem LX.sizes_append : ∀ a b : List LX, LX.size.sizes (a ++ b) = LX.size.sizes a + LX.size.sizes b
  | [], b => by simp [LX.size.sizes]
  | x :: a, b => by simp only [List.cons_append, LX.size.sizes, LX.sizes_append a b]; omega
theorem LX.sizes_take {l : List LX} {i : Nat} (h : i < l.length) : LX.size.sizes (l.take (i + 1)) = LX.size.sizes (l.take i) + (l[i]).size := by
  rw [List.take_add_one, List.getElem?_eq_getElem h, LX.sizes_append]
  simp [LX.size.sizes]
theorem LX.sizes_le {l : List LX} (i : Nat) : LX.size.sizes (l.take i) ≤ LX.size.sizes l := by
  conv => rhs; rw [← List.take_append_drop i l, LX.sizes_append]
  omega
theorem LX.size_kid {x y : LX} (h : y ∈ x.kids) : y.size < x.size := by
  rw [LX.size_eq x]
  obtain ⟨s, t, hst⟩ := List.append_of_mem h
  rw [hst, LX.sizes_append]
  simp only [LX.size.sizes]
  omega
theorem LX.size_pos (x : LX) : 1 ≤ x.size := by rw [LX.size_eq]; omega
theorem LX.len_le (x : LX) : x.kids.length < x.size := by
  rw [LX.size_eq]
  have : ∀ l : List LX, l.length ≤ LX.size.sizes l := by
    intro l
    induction l with
    | nil => simp
    | cons y l ih => have := y.size_pos; simp only [LX.size.sizes, List.length_cons]; omega
  have := this x.kids
  omega
theorem LX.hgt_le (x : LX) : x.hgt ≤ x.size := by
  refine LX.ind (p := fun x => x.hgt ≤ x.size) (fun k n e l ih => ?_) x
  simp only [LX.hgt, LX.size]
  induction l with
  | nil => simp [LX.hgt.hgts]
  | cons z l il =>
    have h1 := ih z (by simp)
    have h2 := il fun x hx => ih x (by simp [hx])
    simp only [LX.hgt.hgts, LX.size.sizes]
    have := z.size_pos
    omega
inductive LX.Bd (m : Nat) : LX → Prop where
  | mk (x : LX) (hn : x.name.length ≤ m) (he : x.exc.length ≤ m) (hz : x.size ≤ m) (hk : ∀ y ∈ x.kids, LX.Bd m y) : LX.Bd m x
theorem LX.Bd.n {m : Nat} {x : LX} (h : x.Bd m) : x.name.length ≤ m := by cases h; assumption
theorem LX.Bd.e {m : Nat} {x : LX} (h : x.Bd m) : x.exc.length ≤ m := by cases h; assumption
theorem LX.Bd.z {m : Nat} {x : LX} (h : x.Bd m) : x.size ≤ m := by cases h; assumption
theorem LX.Bd.k {m : Nat} {x y : LX} (h : x.Bd m) (hy : y ∈ x.kids) : y.Bd m := by cases h; rename_i hk; exact hk y hy
theorem all_next {α : Type} {p : α → Bool} {l : List α} {i : Nat} (hi : i < l.length) (hb : (l.take i).all p = true) (hp : p l[i] = true) : (l.take (i + 1)).all p = true := by
  rw [List.take_add_one, List.all_append, hb, List.getElem?_eq_getElem hi]
  simp [hp]
theorem all_no {α : Type} {p : α → Bool} {l : List α} {i : Nat} (hi : i < l.length) (hp : p l[i] = false) : l.all p = false := by
  rw [List.all_eq_false]
  exact ⟨_, List.getElem_mem hi, by simp [hp]⟩
end Go.Ab
namespace Go.Ab
open Go Go.RowKit Go.Proofs
open Go.Proofs.YtabenhkajabaeaaDoor
set_option maxRecDepth 4000
mutual
theorem bulk_le {H : Type} : ∀ d : DataW H, bulk d ≤ Rows.uptoBulk d
  | .lit l => by cases l <;> simp [bulk, Rows.uptoBulk]
  | .nil => by simp [bulk, Rows.uptoBulk]
  | .ptr d => by have := bulk_le d; simp only [bulk, Rows.uptoBulk]; omega
  | .slice a b => by have := bulkAll_le a; have := bulkAll_le b; simp only [bulk, Rows.uptoBulk]; omega
  | .agg a => by have := bulkAll_le a; simp only [bulk, Rows.uptoBulk]; omega
  | .iface _ d => by have := bulk_le d; simp only [bulk, Rows.uptoBulk]; omega
  | .map es => by simp [bulk, Rows.uptoBulk]
  | .held _ => by simp [bulk, Rows.uptoBulk]
theorem bulkAll_le {H : Type} : ∀ l : List (DataW H), bulkAll l ≤ Rows.uptoBulkAll l
  | [] => by simp [bulkAll, Rows.uptoBulkAll]
  | d :: r => by have := bulk_le d; have := bulkAll_le r; simp only [bulkAll, Rows.uptoBulkAll]; omega
end
theorem trodAll_len {H : Type} {enc : TypeId × Value → H} {P : Program} {W : World} : ∀ (ts : List TypeId) (vs : List Value) (ds : List (DataW H)) (ps : List MemPlace), DataW.TrodAll enc P W 0 (fun _ => true) true ts vs ds ps → ds.length = ts.length
  | [], vs, ds, ps, h => by
    obtain ⟨rfl, rfl, rfl⟩ := ChangeShapes.trodAll_nil h
    rfl
  | t :: ts, vs, ds, ps, h => by
    obtain ⟨v, vs', d, ds', p, q, rfl, rfl, rfl, h1, h2⟩ := ChangeShapes.trodAll_cons h
    simp [trodAll_len ts vs' ds' q h2]
theorem list_choose {α β γ : Type} {f : α → γ} {g : β → γ} : ∀ (ls : List α), (∀ c ∈ ls, ∃ x, f c = g x) → ∃ l : List β, ls.map f = l.map g ∧ l.length = ls.length
  | [], _ => ⟨[], rfl, rfl⟩
  | c :: ls, h => by
    obtain ⟨x, hx⟩ := h c List.mem_cons_self
    obtain ⟨l, h1, h2⟩ := list_choose ls fun c hc => h c (List.mem_cons_of_mem _ hc)
    exact ⟨x :: l, by simp [hx, h1], by simp [h2]⟩
theorem has_str {n : Nat} {cs : List D} (h : HasTy n .str cs) : ∃ s : List UInt8, s.length ≤ n ∧ Ty.str.pack cs = .str s := by
  obtain ⟨s, hl, rfl⟩ := h
  exact ⟨s, hl, rfl⟩
theorem has_s {n : Nat} {xs : List D} (h : HasTys n [.str] xs) : ∃ s : List UInt8, s.length ≤ n ∧ xs = [.str s] := by
  simp only [HasTys] at h
  obtain ⟨c1, _, h1, rfl, rfl⟩ := h
  obtain ⟨s, hl, e1⟩ := has_str h1
  exact ⟨s, hl, by rw [e1]⟩
theorem laid32 : laidOutB Tryd.prog = true := by kernel_rfl
theorem own32 : ownKnob Tryd.prog.godebug = none := by kernel_rfl
def accCells : Array Value := #[.int .u8 128, .int .u8 191, .int .u8 160, .int .u8 191, .int .u8 128, .int .u8 159, .int .u8 144, .int .u8 191, .int .u8 128, .int .u8 143, .int .u8 0, .int .u8 0, .int .u8 0, .int .u8 0, .int .u8 0, .int .u8 0, .int .u8 0, .int .u8 0, .int .u8 0, .int .u8 0, .int .u8 0, .int .u8 0, .int .u8 0, .int .u8 0, .int .u8 0, .int .u8 0, .int .u8 0, .int .u8 0, .int .u8 0, .int .u8 0, .int .u8 0, .int .u8 0]
def firstCells : Array Value := (Go.Pinned.utf8FirstZ.map fun n : Nat => Value.int .u8 (n : Int)).toArray
def layCells (cs : Array Value) : Go.Obj → Go.Obj
  | .cells _ t frozen => .cells cs t frozen
  | o => o
noncomputable def laidWorld (os : Os) : World :=
  { World.holding Tryd.prog os ⟨#[], #[], []⟩ with heap := ((World.holding Tryd.prog os ⟨#[], #[], []⟩).heap.modify 1 (layCells firstCells)).modify 2 (layCells accCells) }
end Go.Ab
