/-
  The data of layer 13 (calls): sites, classes, hierarchies; how they lie in memory; the plain models.
-/
import Derived.Test.YtopkiglcemcjnaaSepM
set_option linter.unusedVariables false
set_option linter.unusedSimpArgs false
namespace Go.Sep

structure Site where
  frm : Int
  to : Int
  iface : Int
  method : Str
  deriving DecidableEq

structure HClass where
  methods : Sl
  funcs : Sl

structure Class where
  methods : List Str
  funcs : List Int

structure HHier where
  funcs : Int
  classes : Sl
  ifaces : Sl
  sites : Sl

structure Hier where
  funcs : Int
  classes : List Class
  ifaces : List (List Str)
  sites : List Site

def rSite : R Site Site where
  size := 4
  bytes := 40
  enc s := [.int .i64 s.frm, .int .i64 s.to, .int .i64 s.iface, strV s.method]
  rep _ h a := h = a
  enc_len _ := rfl
  one _ := rfl
  mono _ h := h

def rClass : R HClass Class where
  size := 2
  bytes := 48
  enc c := [c.methods.v, c.funcs.v]
  rep m h a := SlRep rStr m h.methods a.methods ∧ SlRep rInt m h.funcs a.funcs
  enc_len _ := rfl
  one _ := rfl
  mono hm h := ⟨h.1.mono hm, h.2.mono hm⟩

@[reducible] def rStrs : R Sl (List Str) := rSl rStr

structure HierRep (m : Mem) (h : HHier) (a : Hier) : Prop where
  funcs : h.funcs = a.funcs
  classes : SlRep rClass m h.classes a.classes
  ifaces : SlRep rStrs m h.ifaces a.ifaces
  sites : SlRep rSite m h.sites a.sites

theorem HierRep.mono {m m' : Mem} {h : HHier} {a : Hier} (hr : HierRep m h a) (hm : m ≤ m') : HierRep m' h a :=
  ⟨hr.funcs, hr.classes.mono hm, hr.ifaces.mono hm, hr.sites.mono hm⟩

def hierC (h : HHier) : List Value := [.int .i64 h.funcs, h.classes.v, h.ifaces.v, h.sites.v]
def siteC (s : Site) : List Value := [.int .i64 s.frm, .int .i64 s.to, .int .i64 s.iface, strV s.method]
def classC (c : HClass) : List Value := [c.methods.v, c.funcs.v]
@[reducible] def hierV (h : HHier) : Value := .agg ⟨[.int .i64 h.funcs, h.classes.v, h.ifaces.v, h.sites.v]⟩
@[reducible] def siteV (s : Site) : Value := .agg ⟨[.int .i64 s.frm, .int .i64 s.to, .int .i64 s.iface, strV s.method]⟩
@[reducible] def classV (c : HClass) : Value := .agg ⟨[c.methods.v, c.funcs.v]⟩

/-- the place of the first one, from k on -/
def idx {α : Type} [DecidableEq α] : List α → α → Nat → Int
  | [], _, _ => -1
  | x :: xs, v, k => if v = x then (k : Int) else idx xs v (k + 1)

theorem idx_not {α : Type} [DecidableEq α] : ∀ (l : List α) (v : α) (k : Nat), v ∉ l → idx l v k = -1
  | [], _, _, _ => rfl
  | x :: xs, v, k, h => by
    rw [idx, if_neg (fun e => h (by simp [e])), idx_not xs v (k + 1) (fun e => h (by simp [e]))]

theorem idx_mem {α : Type} [DecidableEq α] : ∀ (l : List α) (v : α) (k : Nat), v ∈ l → ∃ j, l[j]? = some v ∧ idx l v k = ((k + j : Nat) : Int)
  | [], _, _, h => by cases h
  | x :: xs, v, k, h => by
    by_cases e : v = x
    · exact ⟨0, by simp [e], by rw [idx, if_pos e]; rfl⟩
    · have h' : v ∈ xs := by
        rcases List.mem_cons.1 h with h | h
        · exact absurd h e
        · exact h
      obtain ⟨j, h1, h2⟩ := idx_mem xs v (k + 1) h'
      exact ⟨j + 1, by simpa using h1, by rw [idx, if_neg e, h2]; congr 1; omega⟩

theorem idx_ge {α : Type} [DecidableEq α] (l : List α) (v : α) : decide (0 ≤ idx l v 0) = decide (v ∈ l) := by
  by_cases h : v ∈ l
  · obtain ⟨j, _, h2⟩ := idx_mem l v 0 h
    simp [h, h2]
  · simp [h, idx_not l v 0 h]

def satM (c : Class) (iface : List Str) : Bool := iface.all fun x => decide (x ∈ c.methods)

def stepT (h : Hier) (s : Site) (out : List Int) (c : Class) : List Int :=
  if satM c (h.ifaces[s.iface.toNat]?.getD []) then
    (let f := c.funcs[(idx c.methods s.method 0).toNat]?.getD 0; if f ∈ out then out else out ++ [f])
  else out

def targetsM (h : Hier) (s : Site) : List Int := if s.iface < 0 then [s.to] else h.classes.foldl (stepT h s) []

structure SiteOk (h : Hier) (s : Site) : Prop where
  frm : 0 ≤ s.frm ∧ s.frm < h.funcs
  how : (s.iface = -1 ∧ 0 ≤ s.to ∧ s.to < h.funcs ∧ s.method = []) ∨ (0 ≤ s.iface ∧ s.iface < h.ifaces.length ∧ s.to = 0 ∧ s.method ∈ h.ifaces[s.iface.toNat]?.getD [])

structure ClassOk (h : Hier) (c : Class) : Prop where
  once : c.methods.Nodup
  len : c.funcs.length = c.methods.length
  funcs : ∀ f ∈ c.funcs, 0 ≤ f ∧ f < h.funcs

structure Good (h : Hier) : Prop where
  funcs : 0 ≤ h.funcs
  classes : ∀ c ∈ h.classes, ClassOk h c
  ifaces : ∀ i ∈ h.ifaces, i.Nodup
  sites : ∀ s ∈ h.sites, SiteOk h s

def Small (h : Hier) : Prop := h.funcs ≤ 4096 ∧ h.classes.length ≤ 1024 ∧ h.ifaces.length ≤ 1024 ∧ h.sites.length ≤ 20000

open Classical in
noncomputable def soundM (h : Hier) : Int := if ¬ Small h then 4 else if ¬ Good h then 2 else 0

theorem soundM_ok {h : Hier} : soundM h = 0 ↔ Small h ∧ Good h := by
  unfold soundM
  by_cases h1 : Small h <;> by_cases h2 : Good h <;> simp [h1, h2]

end Go.Sep
