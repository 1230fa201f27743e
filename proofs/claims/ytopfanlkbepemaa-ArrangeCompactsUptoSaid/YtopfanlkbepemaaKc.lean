/- Merged out of my texts V15 VN V16 V17 VE Ty VK VL VS VT VR AD AFa. -/
import Derived.Test.YtopfanlkbepemaaKb
import Derived.Test.YtopfanlkbepemaaKa
import Derived.Test.YtopfanlkbepemaaProg
import Derived.KernelRfl
/- The V logic, part 15: the same notions in a form in which simp walks code without entering what follows: combinators whose continuation is not visited (congruence lemmas), a list of what is left to do. -/
namespace Go.VL
open Go.RowKit

/-- A part that simp still has to visit; what stands beside it is left alone. -/
def Todo {α : Sort _} (a : α) : α := a
/-- So that simp keeps the step in the proof (a theorem by 'rfl' leaves none, and the kernel then has the whole way to go alone). -/
theorem eqq {α : Sort _} {a b : α} (h : a = b) : a = b := h
theorem Todo_eq {α : Sort _} (a : α) : Todo a = a := eqq rfl


/-- A part that is to be visited before it is laid away. -/
def onVal {α : Type} (a : α) (k : α → Prop) : Prop := k a
@[congr] theorem onVal_congr {α : Type} {a a' : α} {k : α → Prop} (h : Todo a = a') : onVal (Todo a) k = onVal a' k := by rw [← h]
theorem onVal_eq {α : Type} (a : α) (k : α → Prop) : onVal a k = k a := eqq rfl
def onSome {α : Type} (o : Option α) (k : α → Prop) : Prop := match o with | some a => k a | none => False
@[congr] theorem onSome_congr {α : Type} {o o' : Option α} {k : α → Prop} (h : Todo o = o') : onSome (Todo o) k = onSome o' k := by rw [← h]
theorem onSome_some {α : Type} (a : α) (k : α → Prop) : onSome (some a) k = k a := eqq rfl

def onInt (v : V) (k : IntKind → Int → Prop) : Prop := match v with | .lit (.int kk j) => k kk j | _ => False
@[congr] theorem onInt_congr {v v' : V} {k : IntKind → Int → Prop} (h : Todo v = v') : onInt (Todo v) k = onInt v' k := by rw [← h]
theorem onInt_int (kk : IntKind) (j : Int) (k : IntKind → Int → Prop) : onInt (.lit (.int kk j)) k = k kk j := eqq rfl

def onStr (v : V) (k : ByteArray → Prop) : Prop := match v with | .lit (.string s) => k s | _ => False
@[congr] theorem onStr_congr {v v' : V} {k : ByteArray → Prop} (h : Todo v = v') : onStr (Todo v) k = onStr v' k := by rw [← h]
theorem onStr_str (s : ByteArray) (k : ByteArray → Prop) : onStr (.lit (.string s)) k = k s := eqq rfl

def onAgg (v : V) (k : List V → Prop) : Prop := match v with | .agg cs => k cs | _ => False
@[congr] theorem onAgg_congr {v v' : V} {k : List V → Prop} (h : Todo v = v') : onAgg (Todo v) k = onAgg v' k := by rw [← h]
theorem onAgg_agg (cs : List V) (k : List V → Prop) : onAgg (.agg cs) k = k cs := eqq rfl

def onTup (v : V) (k : List V → Prop) : Prop := match v with | .tup cs => k cs | _ => False
@[congr] theorem onTup_congr {v v' : V} {k : List V → Prop} (h : Todo v = v') : onTup (Todo v) k = onTup v' k := by rw [← h]
theorem onTup_tup (cs : List V) (k : List V → Prop) : onTup (.tup cs) k = k cs := eqq rfl

def onHead (cs : List V) (k : V → Prop) : Prop := match cs with | c :: _ => k c | [] => False
@[congr] theorem onHead_congr {v v' : List V} {k : V → Prop} (h : Todo v = v') : onHead (Todo v) k = onHead v' k := by rw [← h]
theorem onHead_cons (c : V) (cs : List V) (k : V → Prop) : onHead (c :: cs) k = k c := eqq rfl

def onBool (v : V) (k : Bool → Prop) : Prop := match v with | .lit (.bool b) => k b | _ => False
@[congr] theorem onBool_congr {v v' : V} {k : Bool → Prop} (h : Todo v = v') : onBool (Todo v) k = onBool v' k := by rw [← h]
theorem onBool_bool (b : Bool) (k : Bool → Prop) : onBool (.lit (.bool b)) k = k b := eqq rfl

/-- A test: the two ways. -/
def onGuard (v : V) (w : Bool) (A B : Prop) (_ : Fix A) (_ : Fix B) : Prop := match v with | .lit x => if isB x w = true then A else B | _ => False
theorem onGuard_tt (A B : Prop) (p : Fix A) (q : Fix B) : onGuard (.lit (.bool true)) true A B p q = A := by simp [onGuard, isB]
theorem onGuard_ft (A B : Prop) (p : Fix A) (q : Fix B) : onGuard (.lit (.bool false)) true A B p q = B := by simp [onGuard, isB]
theorem onGuard_tf (A B : Prop) (p : Fix A) (q : Fix B) : onGuard (.lit (.bool true)) false A B p q = B := by simp [onGuard, isB]
theorem onGuard_ff (A B : Prop) (p : Fix A) (q : Fix B) : onGuard (.lit (.bool false)) false A B p q = A := by simp [onGuard, isB]
theorem onGuard_skip (w : Bool) (A B : Prop) (p : Fix A) (q : Fix B) : onGuard skipV w A B p q = B := by simp [onGuard, isB, skipV, undef]
theorem onGuard_split {x : Prop} [Decidable x] {A B : Prop} {p : Fix A} {q : Fix B} (h : x → A) (h' : ¬ x → B) : onGuard (.lit (.bool (decide x))) true A B p q := by
  by_cases hp : x
  · simp [onGuard, isB, hp]; exact h hp
  · simp [onGuard, isB, hp]; exact h' hp
theorem onGuard_splitb {b : Bool} {A B : Prop} {p : Fix A} {q : Fix B} (h : b = true → A) (h' : b = false → B) : onGuard (.lit (.bool b)) true A B p q := by
  cases b
  · simp [onGuard, isB]; exact h' rfl
  · simp [onGuard, isB]; exact h rfl
theorem onGuard_splitf {b : Bool} {A B : Prop} {p : Fix A} {q : Fix B} (h : b = false → A) (h' : b = true → B) : onGuard (.lit (.bool b)) false A B p q := by
  cases b
  · simp [onGuard, isB]; exact h rfl
  · simp [onGuard, isB]; exact h' rfl

/-- A branch. -/
def onCond (v : V) (A B : Prop) (_ : Fix A) (_ : Fix B) : Prop := match v with | .lit (.bool b) => if b = true then A else B | _ => False
theorem onCond_t (A B : Prop) (p : Fix A) (q : Fix B) : onCond (.lit (.bool true)) A B p q = A := by simp [onCond]
theorem onCond_f (A B : Prop) (p : Fix A) (q : Fix B) : onCond (.lit (.bool false)) A B p q = B := by simp [onCond]
theorem onCond_split {x : Prop} [Decidable x] {A B : Prop} {p : Fix A} {q : Fix B} (h : x → A) (h' : ¬ x → B) : onCond (.lit (.bool (decide x))) A B p q := by
  by_cases hp : x
  · simp [onCond, hp]; exact h hp
  · simp [onCond, hp]; exact h' hp
theorem onCond_splitb {b : Bool} {A B : Prop} {p : Fix A} {q : Fix B} (h : b = true → A) (h' : b = false → B) : onCond (.lit (.bool b)) A B p q := by
  cases b
  · simp [onCond]; exact h' rfl
  · simp [onCond]; exact h rfl

@[congr] theorem And2_congr {A A' B : Prop} (h : Todo A = A') : And2 (Todo A) B = And2 A' B := by rw [← h]
theorem And2_true (B : Prop) : And2 True B = B := by simp [And2]
/-- 'for every fresh name'. -/
def Fresh (l : List Nat) (K : Nat → Prop) (_ : Fix K) : Prop := ∀ b, b ∉ l → K b
theorem AllV_eq (K : Value → Prop) : AllV K = ∀ y, K y := eqq rfl

@[congr] theorem onL_congr {v v' : V} {k : Nat} {K : List (List V) → Prop} (h : Todo v = v') : onL (Todo v) k K = onL v' k K := by rw [← h]
theorem onL_list (a : Option Value) (k' k : Nat) (es : List (List V)) (K : List (List V) → Prop) : onL (.list a k' es) k K = And2 (Todo (k' = k)) (K es) := eqq rfl
theorem onL_nil (k : Nat) (K : List (List V) → Prop) : onL (.lit (.slice none 0 0)) k K = K [] := eqq rfl

@[congr] theorem onS_congr {v v' : V} {k : Nat} {KL : List (List V) → Prop} {KM : Nat → Nat → Nat → Nat → Prop} (h : Todo v = v') : onS (Todo v) k KL KM = onS v' k KL KM := by rw [← h]
theorem onS_list (a : Option Value) (k' k : Nat) (es : List (List V)) (KL : List (List V) → Prop) (KM : Nat → Nat → Nat → Nat → Prop) : onS (.list a k' es) k KL KM = And2 (Todo (k' = k)) (KL es) := eqq rfl
theorem onS_nil (k : Nat) (KL : List (List V) → Prop) (KM : Nat → Nat → Nat → Nat → Prop) : onS (.lit (.slice none 0 0)) k KL KM = KL [] := eqq rfl
theorem onS_box (b o n c k : Nat) (KL : List (List V) → Prop) (KM : Nat → Nat → Nat → Nat → Prop) : onS (.lit (.slice (some ⟨b, o, none⟩) n c)) k KL KM = KM b o n c := eqq rfl

@[congr] theorem bnd_congr {v v' : Option V} {d : Nat} {K : Nat → Prop} (h : Todo v = v') : bnd (Todo v) d K = bnd v' d K := by rw [← h]
theorem bnd_none (d : Nat) (K : Nat → Prop) : bnd none d K = K d := eqq rfl
theorem bnd_int (kk : IntKind) (j : Int) (d : Nat) (K : Nat → Prop) : bnd (some (.lit (.int kk j))) d K = And2 (Todo (0 ≤ j)) (K j.toNat) := eqq rfl

@[congr] theorem shiftP_congr {v v' : V} {off : Nat} {k : V → Prop} (h : Todo v = v') : shiftP (Todo v) off k = shiftP v' off k := by rw [← h]
theorem shiftP_ref (cs : List V) (off : Nat) (k : V → Prop) : shiftP (.ref cs) off k = k (.ref (cs.drop off)) := eqq rfl
theorem shiftP_ptr (b o off : Nat) (k : V → Prop) : shiftP (.lit (.pointer (some ⟨b, o, none⟩))) off k = k (.lit (.pointer (some ⟨b, o + off, none⟩))) := eqq rfl

@[congr] theorem atP_congr {S : St} {v v' : V} {k : List V → Prop} (h : Todo v = v') : atP S (Todo v) k = atP S v' k := by rw [← h]
theorem atP_ref (S : St) (cs : List V) (k : List V → Prop) : atP S (.ref cs) k = k cs := eqq rfl
theorem atP_ptr (S : St) (b o : Nat) (k : List V → Prop) : atP S (.lit (.pointer (some ⟨b, o, none⟩))) k = onSome (Todo (getB S.boxes b)) fun cs => k (cs.drop o) := by
  simp only [atP, onSome]; cases getB S.boxes b <;> rfl

def loadD (isA : Bool) (n : Nat) (cs : List V) (k : V → Prop) : Prop := if isA then And2 (n ≤ cs.length) (k (.agg (cs.take n))) else onHead cs k
@[congr] theorem loadD_congr {a : Bool} {n : Nat} {cs cs' : List V} {k : V → Prop} (h : Todo cs = cs') : loadD a n (Todo cs) k = loadD a n cs' k := by rw [← h]
theorem loadD_agg (n : Nat) (cs : List V) (k : V → Prop) : loadD true n cs k = And2 (Todo (n ≤ cs.length)) (onVal (Todo (V.agg (cs.take n))) k) := eqq rfl
theorem loadD_one (n : Nat) (cs : List V) (k : V → Prop) : loadD false n cs k = onHead (Todo cs) k := eqq rfl
@[congr] theorem loadK_congr {P : Program} {t : TypeId} {cs cs' : List V} {k : V → Prop} (h : Todo cs = cs') : loadK P t (Todo cs) k = loadK P t cs' k := by rw [← h]
theorem loadK_eq (P : Program) (t : TypeId) (cs : List V) (k : V → Prop) : loadK P t cs k = onSome (Todo (tag P t)) fun a => onSome (Todo (tsz P t)) fun n => loadD a n cs k := by
  simp only [Todo_eq]
  unfold loadK onSome loadD onHead
  cases tag P t with
  | none => rfl
  | some a => cases tsz P t with
    | none => cases a <;> rfl
    | some n => cases a <;> rfl

def partD (isA : Bool) (n : Nat) (cs : List V) (k : V → Prop) : Prop := if isA then k (.agg (cs.take n)) else onHead cs k
@[congr] theorem partD_congr {a : Bool} {n : Nat} {cs cs' : List V} {k : V → Prop} (h : Todo cs = cs') : partD a n (Todo cs) k = partD a n cs' k := by rw [← h]
theorem partD_agg (n : Nat) (cs : List V) (k : V → Prop) : partD true n cs k = onVal (Todo (V.agg (cs.take n))) k := eqq rfl
theorem partD_one (n : Nat) (cs : List V) (k : V → Prop) : partD false n cs k = onHead (Todo cs) k := eqq rfl
@[congr] theorem partK_congr {P : Program} {t : TypeId} {cs cs' : List V} {off : Nat} {k : V → Prop} (h : Todo cs = cs') : partK P t (Todo cs) off k = partK P t cs' off k := by rw [← h]
theorem partK_eq (P : Program) (t : TypeId) (cs : List V) (off : Nat) (k : V → Prop) : partK P t cs off k = onSome (Todo (tag P t)) fun a => onSome (Todo (tsz P t)) fun n => partD a n (cs.drop off) k := by
  simp only [Todo_eq]
  unfold partK onSome partD onHead
  cases tag P t with
  | none => rfl
  | some a => cases tsz P t with
    | none => cases a <;> rfl
    | some n => cases a <;> rfl

@[congr] theorem fieldAddrK_congr {P : Program} {s : TypeId} {f : Nat} {v v' : V} {k : V → Prop} (h : Todo v = v') : fieldAddrK P s f (Todo v) k = fieldAddrK P s f v' k := by rw [← h]
def posK (n : Nat) (A : Prop) : Prop := match n with | 0 => False | _ + 1 => A
@[congr] theorem posK_congr {n n' : Nat} {A : Prop} (h : Todo n = n') : posK (Todo n) A = posK n' A := by rw [← h]
theorem posK_succ (n : Nat) (A : Prop) : posK (n + 1) A = A := eqq rfl
theorem fieldAddrK_eq (P : Program) (s : TypeId) (f : Nat) (v : V) (k : V → Prop) : fieldAddrK P s f v k = onSome (Todo (fld P s f)) fun p => onSome (Todo (tsz P p.2)) fun n => posK (Todo n) (shiftP (Todo v) p.1 k) := by
  simp only [Todo_eq]
  unfold fieldAddrK onSome posK
  cases fld P s f with
  | none => rfl
  | some p =>
    obtain ⟨off, t⟩ := p
    simp only []
    cases tsz P t with
    | none => rfl
    | some n => cases n <;> rfl

@[congr] theorem fieldK_congr {P : Program} {s : TypeId} {f : Nat} {v v' : V} {k : V → Prop} (h : Todo v = v') : fieldK P s f (Todo v) k = fieldK P s f v' k := by rw [← h]
theorem fieldK_eq (P : Program) (s : TypeId) (f : Nat) (v : V) (k : V → Prop) : fieldK P s f v k = onSome (Todo (fld P s f)) fun p => onAgg (Todo v) fun cs => partK P p.2 cs p.1 k := by
  simp only [Todo_eq]
  unfold fieldK onSome onAgg
  cases fld P s f with
  | none => rfl
  | some p => cases v <;> rfl

def idxAddrD (P : Program) (d : TypeDesc) (v i : V) (k : V → Prop) : Prop :=
  match d with
  | .slice e => onSome (tsz P e) fun n => onInt i fun _ j => onS v n (fun es => And2 (0 ≤ j) (And2 (j < es.length) (k (.ref (es.getD j.toNat []))))) fun b o l _ => And2 (0 ≤ j) (And2 (j < l) (k (.lit (.pointer (some ⟨b, o + j.toNat * n, none⟩)))))
  | .array len e => onSome (tsz P e) fun n => onInt i fun _ j => And2 (0 ≤ j) (And2 (j < len) (shiftP v (j.toNat * n) k))
  | _ => False
@[congr] theorem idxAddrD_congr {P : Program} {d : TypeDesc} {v v' i i' : V} {k : V → Prop} (h : Todo v = v') (h' : Todo i = i') : idxAddrD P d (Todo v) (Todo i) k = idxAddrD P d v' i' k := by rw [← h, ← h']
theorem idxAddrD_slice (P : Program) (e : TypeId) (v i : V) (k : V → Prop) : idxAddrD P (.slice e) v i k = onSome (Todo (tsz P e)) fun n => onInt (Todo i) fun _ j => onS (Todo v) n (fun es => And2 (Todo (0 ≤ j)) (And2 (Todo (j < es.length)) (k (.ref (es.getD j.toNat []))))) fun b o l _ => And2 (Todo (0 ≤ j)) (And2 (Todo (j < l)) (k (.lit (.pointer (some ⟨b, o + j.toNat * n, none⟩))))) := eqq rfl
theorem idxAddrD_array (P : Program) (len : Nat) (e : TypeId) (v i : V) (k : V → Prop) : idxAddrD P (.array len e) v i k = onSome (Todo (tsz P e)) fun n => onInt (Todo i) fun _ j => And2 (Todo (0 ≤ j)) (And2 (Todo (j < len)) (shiftP (Todo v) (j.toNat * n) k)) := eqq rfl
@[congr] theorem idxAddrK_congr {P : Program} {t : TypeId} {v v' i i' : V} {k : V → Prop} (h : Todo v = v') (h' : Todo i = i') : idxAddrK P t (Todo v) (Todo i) k = idxAddrK P t v' i' k := by rw [← h, ← h']
theorem idxAddrK_eq (P : Program) (t : TypeId) (v i : V) (k : V → Prop) : idxAddrK P t v i k = onSome (Todo (P.underlying t)) fun d => idxAddrD P d v i k := by
  simp only [Todo_eq]
  unfold idxAddrK onSome
  cases P.underlying t with
  | none => rfl
  | some d =>
    cases d <;> (first | rfl | skip)
    case slice e =>
      cases i with
      | lit x => cases x <;> (simp only [idxAddrD, onInt, onSome, And2]; cases tsz P e <;> rfl)
      | _ => simp only [idxAddrD, onInt, onSome]; cases tsz P e <;> rfl
    case array len e =>
      cases i with
      | lit x => cases x <;> (simp only [idxAddrD, onInt, onSome, And2]; cases tsz P e <;> rfl)
      | _ => simp only [idxAddrD, onInt, onSome]; cases tsz P e <;> rfl

def idxD (P : Program) (d : TypeDesc) (v i : V) (k : V → Prop) : Prop :=
  match d with
  | .string => onStr v fun s => onInt i fun _ j => And2 (0 ≤ j) (And2 (j < s.size) (k (.lit (.int .u8 (s.data.toList.getD j.toNat 0).toNat))))
  | .array len e => onAgg v fun cs => onInt i fun _ j => onSome (tsz P e) fun n => And2 (0 ≤ j) (And2 (j < len) (partK P e cs (j.toNat * n) k))
  | _ => False
@[congr] theorem idxD_congr {P : Program} {d : TypeDesc} {v v' i i' : V} {k : V → Prop} (h : Todo v = v') (h' : Todo i = i') : idxD P d (Todo v) (Todo i) k = idxD P d v' i' k := by rw [← h, ← h']
theorem idxD_string (P : Program) (v i : V) (k : V → Prop) : idxD P .string v i k = onStr (Todo v) fun s => onInt (Todo i) fun _ j => And2 (Todo (0 ≤ j)) (And2 (Todo (j < s.size)) (k (.lit (.int .u8 (s.data.toList.getD j.toNat 0).toNat)))) := eqq rfl
theorem idxD_array (P : Program) (len : Nat) (e : TypeId) (v i : V) (k : V → Prop) : idxD P (.array len e) v i k = onAgg (Todo v) fun cs => onInt (Todo i) fun _ j => onSome (Todo (tsz P e)) fun n => And2 (Todo (0 ≤ j)) (And2 (Todo (j < len)) (partK P e cs (j.toNat * n) k)) := eqq rfl
@[congr] theorem idxK_congr {P : Program} {t : TypeId} {v v' i i' : V} {k : V → Prop} (h : Todo v = v') (h' : Todo i = i') : idxK P t (Todo v) (Todo i) k = idxK P t v' i' k := by rw [← h, ← h']
theorem idxK_eq (P : Program) (t : TypeId) (v i : V) (k : V → Prop) : idxK P t v i k = onSome (Todo (P.underlying t)) fun d => idxD P d v i k := by
  simp only [Todo_eq]
  unfold idxK onSome
  cases P.underlying t with
  | none => rfl
  | some d =>
    cases d <;> (first | rfl | skip)
    case string =>
      cases v with
      | lit x => cases x <;> (first | rfl | (cases i with | lit y => cases y <;> rfl | _ => rfl))
      | _ => rfl
    case array len e =>
      cases v with
      | agg cs => cases i with
        | lit y => cases y <;> (first | rfl | (simp only [idxD, onAgg, onInt, onSome, And2]; cases tsz P e <;> rfl))
        | _ => rfl
      | _ => rfl

@[congr] theorem binK_congr {P : Program} {op : BinOp} {t : TypeId} {x x' y y' : V} {k : V → Prop} (h : Todo x = x') (h' : Todo y = y') : binK P op t (Todo x) (Todo y) k = binK P op t x' y' k := by rw [← h, ← h']
theorem binK_int (P : Program) (op : BinOp) (t : TypeId) (k k' : IntKind) (a b : Int) (K : V → Prop) : binK P op t (.lit (.int k a)) (.lit (.int k' b)) K = onSome (Todo (sbin op (.int k a) (.int k' b))) fun v => K (.lit v) := by
  simp only [binK, onSome]
  rw [Todo_eq]
  cases h : sbin op (.int k a) (.int k' b) <;> simp
theorem binK_str (P : Program) (op : BinOp) (t : TypeId) (a b : ByteArray) (K : V → Prop) : binK P op t (.lit (.string a)) (.lit (.string b)) K = onSome (Todo (sbin op (.string a) (.string b))) fun v => K (.lit v) := by
  simp only [binK, onSome]
  rw [Todo_eq]
  cases h : sbin op (.string a) (.string b) <;> simp
theorem binK_nil (P : Program) (op : BinOp) (t : TypeId) (p : Option Addr) (n c : Nat) (K : V → Prop) : binK P op t (.lit (.slice p n c)) (.lit (.slice none 0 0)) K = nilQ P op t p.isNone K := eqq rfl
theorem binK_lnil (P : Program) (op : BinOp) (t : TypeId) (o : Option Value) (k : Nat) (es : List (List V)) (K : V → Prop) : binK P op t (.list o k es) (.lit (.slice none 0 0)) K = And2 (Todo (es ≠ [] ∨ notNil o = true)) (nilQ P op t false K) := eqq rfl
theorem notNil_some (p : Addr) (n c : Nat) : notNil (some (.slice (some p) n c)) = true := eqq rfl
theorem notNil_none : notNil none = false := eqq rfl
/-- What the model's '==' says of two aggregates: named per type by a fact of the form 'eqF P op t l m = some b'. -/
def EqK (P : Program) (op : BinOp) (t : TypeId) (xs ys : List V) (k : V → Prop) : Prop := ∃ l m b, vals xs = some l ∧ vals ys = some m ∧ EqAgg P op t l m b ∧ k (.lit (.bool b))
@[congr] theorem EqK_congr {P : Program} {op : BinOp} {t : TypeId} {x x' y y' : List V} {k : V → Prop} (h : Todo x = x') (h' : Todo y = y') : EqK P op t (Todo x) (Todo y) k = EqK P op t x' y' k := by rw [← h, ← h']
theorem binK_agg (P : Program) (op : BinOp) (t : TypeId) (xs ys : List V) (k : V → Prop) : binK P op t (.agg xs) (.agg ys) k = EqK P op t xs ys k := eqq rfl

def unK (op : UnOp) (x : V) (k : V → Prop) : Prop := match x with | .lit a => ∃ v, sun op a = some v ∧ k (.lit v) | _ => False
@[congr] theorem unK_congr {op : UnOp} {x x' : V} {k : V → Prop} (h : Todo x = x') : unK op (Todo x) k = unK op x' k := by rw [← h]
theorem unK_lit (op : UnOp) (a : Value) (k : V → Prop) : unK op (.lit a) k = onSome (Todo (sun op a)) fun v => k (.lit v) := by
  simp only [unK, onSome]
  rw [Todo_eq]
  cases h : sun op a <;> simp

def convD (d : TypeDesc) (v : V) (k : V → Prop) : Prop :=
  match d with
  | .int kk => onInt v fun _ n => k (.lit (.int kk (kk.wrap n)))
  | .string => onStr v fun s => k (.lit (.string s))
  | _ => False
@[congr] theorem convD_congr {d : TypeDesc} {v v' : V} {k : V → Prop} (h : Todo v = v') : convD d (Todo v) k = convD d v' k := by rw [← h]
theorem convD_int (kk : IntKind) (v : V) (k : V → Prop) : convD (.int kk) v k = onInt (Todo v) fun _ n => k (.lit (.int kk (kk.wrap n))) := eqq rfl
theorem convD_string (v : V) (k : V → Prop) : convD .string v k = onStr (Todo v) fun s => k (.lit (.string s)) := eqq rfl
@[congr] theorem convK_congr {P : Program} {s d : TypeId} {v v' : V} {k : V → Prop} (h : Todo v = v') : convK P s d (Todo v) k = convK P s d v' k := by rw [← h]
theorem convK_eq (P : Program) (src dst : TypeId) (v : V) (k : V → Prop) : convK P src dst v k = onSome (Todo (P.underlying src)) fun _ => onSome (Todo (P.underlying dst)) fun d => convD d v k := by
  simp only [Todo_eq]
  unfold convK onSome
  cases P.underlying src with
  | none => rfl
  | some d' => cases P.underlying dst with
    | none => rfl
    | some d => cases d <;> (first | rfl | (cases v with | lit x => cases x <;> rfl | _ => rfl))

/-- A conversion in a plain region. -/
def convE (P : Program) (S : St) (ds d : TypeDesc) (v : V) (k : V → Prop) : Prop :=
  match ds, d with
  | .slice e, .string => bytesD P S e v k
  | _, d => convD d v k
@[congr] theorem convE_congr {P : Program} {S : St} {ds d : TypeDesc} {v v' : V} {k : V → Prop} (h : Todo v = v') : convE P S ds d (Todo v) k = convE P S ds d v' k := by rw [← h]
theorem convE_int (P : Program) (S : St) (ds : TypeDesc) (kk : IntKind) (v : V) (k : V → Prop) : convE P S ds (.int kk) v k = onInt (Todo v) fun _ n => k (.lit (.int kk (kk.wrap n))) := eqq (by cases ds <;> rfl)
theorem convE_string (P : Program) (S : St) (v : V) (k : V → Prop) : convE P S .string .string v k = onStr (Todo v) fun s => k (.lit (.string s)) := eqq rfl
theorem convE_bytes (P : Program) (S : St) (e : TypeId) (v : V) (k : V → Prop) : convE P S (.slice e) .string v k = bytesD P S e (Todo v) k := eqq rfl
@[congr] theorem bytesD_congr {P : Program} {S : St} {e : TypeId} {v v' : V} {k : V → Prop} (h : Todo v = v') : bytesD P S e (Todo v) k = bytesD P S e v' k := by rw [← h]
@[congr] theorem BytesF_congr {cs cs' : List V} {k : ByteArray → Prop} {f : Fix k} (h : Todo cs = cs') : BytesF (Todo cs) k f = BytesF cs' k f := by rw [← h]
theorem bytesD_nil (P : Program) (S : St) (e : TypeId) (n c : Nat) (k : V → Prop) : bytesD P S e (.lit (.slice none n c)) k = And2 (Todo (P.underlying e = some (.int .u8))) (k (.lit (.string ⟨#[]⟩))) := eqq rfl
theorem bytesD_box (P : Program) (S : St) (e : TypeId) (b o n c : Nat) (k : V → Prop) : bytesD P S e (.lit (.slice (some ⟨b, o, none⟩) n c)) k = And2 (Todo (P.underlying e = some (.int .u8))) (onSome (Todo (getB S.boxes b)) fun cs => And2 (Todo (o + n ≤ cs.length)) (BytesF (Todo ((cs.drop o).take n)) (fun x => k (.lit (.string x))) .mk)) := by
  simp only [bytesD, onSome, Todo_eq, And2]
  cases getB S.boxes b <;> rfl
theorem bytesD_list (P : Program) (S : St) (e : TypeId) (own : Option Value) (es : List (List V)) (k : V → Prop) : bytesD P S e (.list own 1 es) k = And2 (Todo (P.underlying e = some (.int .u8))) (And2 (∀ e ∈ es, e.length = 1) (BytesF (Todo es.flatten) (fun x => k (.lit (.string x))) .mk)) := by
  simp only [bytesD, Todo_eq, And2, true_and]
@[congr] theorem convB_congr {P : Program} {S : St} {s d : TypeId} {v v' : V} {k : V → Prop} (h : Todo v = v') : convB P S s d (Todo v) k = convB P S s d v' k := by rw [← h]
theorem convB_eq (P : Program) (S : St) (src dst : TypeId) (v : V) (k : V → Prop) : convB P S src dst v k = onSome (Todo (P.underlying src)) fun ds => onSome (Todo (P.underlying dst)) fun d => convE P S ds d v k := by
  unfold convB
  rw [convK_eq]
  simp only [Todo_eq]
  unfold onSome
  cases h : P.underlying src with
  | none => rfl
  | some ds => cases h' : P.underlying dst with
    | none => cases ds <;> rfl
    | some d => cases ds <;> cases d <;> rfl

def lenD (P : Program) (d : TypeDesc) (v : V) (k : V → Prop) : Prop :=
  match d with
  | .string => onStr v fun s => k (.lit (.int .i64 s.size))
  | .slice e => onSome (tsz P e) fun n => onS v n (fun es => k (.lit (.int .i64 es.length))) fun _ _ l _ => k (.lit (.int .i64 l))
  | _ => False
@[congr] theorem lenD_congr {P : Program} {d : TypeDesc} {v v' : V} {k : V → Prop} (h : Todo v = v') : lenD P d (Todo v) k = lenD P d v' k := by rw [← h]
theorem lenD_string (P : Program) (v : V) (k : V → Prop) : lenD P .string v k = onStr (Todo v) fun s => k (.lit (.int .i64 s.size)) := eqq rfl
theorem lenD_slice (P : Program) (e : TypeId) (v : V) (k : V → Prop) : lenD P (.slice e) v k = onSome (Todo (tsz P e)) fun n => onS (Todo v) n (fun es => k (.lit (.int .i64 es.length))) fun _ _ l _ => k (.lit (.int .i64 l)) := eqq rfl
@[congr] theorem lenK_congr {P : Program} {t : TypeId} {v v' : V} {k : V → Prop} (h : Todo v = v') : lenK P t (Todo v) k = lenK P t v' k := by rw [← h]
theorem lenK_eq (P : Program) (t : TypeId) (v : V) (k : V → Prop) : lenK P t v k = onSome (Todo (P.underlying t)) fun d => lenD P d v k := by
  simp only [Todo_eq]
  unfold lenK onSome
  cases P.underlying t with
  | none => rfl
  | some d =>
    cases d <;> (first | rfl | skip)
    case string => cases v with
      | lit x => cases x <;> rfl
      | _ => rfl
    case slice e => simp only [lenD, onSome]; cases tsz P e <;> rfl

def capD (d : TypeDesc) (v : V) (k : V → Prop) : Prop := match d, v with | .slice _, .lit (.slice _ _ c) => k (.lit (.int .i64 c)) | _, _ => False
@[congr] theorem capD_congr {d : TypeDesc} {v v' : V} {k : V → Prop} (h : Todo v = v') : capD d (Todo v) k = capD d v' k := by rw [← h]
theorem capD_slice (e : TypeId) (a : Option Addr) (n c : Nat) (k : V → Prop) : capD (.slice e) (.lit (.slice a n c)) k = k (.lit (.int .i64 c)) := eqq rfl
@[congr] theorem capK_congr {P : Program} {t : TypeId} {v v' : V} {k : V → Prop} (h : Todo v = v') : capK P t (Todo v) k = capK P t v' k := by rw [← h]
theorem capK_eq (P : Program) (t : TypeId) (v : V) (k : V → Prop) : capK P t v k = onSome (Todo (P.underlying t)) fun d => capD d v k := by
  simp only [Todo_eq]
  unfold capK onSome
  cases P.underlying t with
  | none => rfl
  | some d => cases d <;> (first | rfl | (cases v with | lit x => cases x <;> rfl | _ => rfl))

def sliceD (P : Program) (d : TypeDesc) (v : V) (lo hi mx : Option V) (k : V → Prop) : Prop :=
  match d with
  | .string => onStr v fun s => And2 (mx = none) (bnd hi s.size fun h => bnd lo 0 fun l => And2 (l ≤ h) (And2 (h ≤ s.size) (k (.lit (.string (s.extract l h))))))
  | .slice e => onSome (tsz P e) fun n => onS v n (fun es => bnd hi es.length fun h => bnd lo 0 fun l => And2 (l ≤ h) (And2 (h ≤ es.length) (And2 (∀ x, mx = some x → hi.isSome ∧ bnd mx 0 fun m => h ≤ m ∧ m ≤ es.length) (k (.list none n ((es.drop l).take (h - l)))))))
      fun b o ln c => bnd mx c fun m => bnd hi ln fun h => bnd lo 0 fun l => And2 (l ≤ h) (And2 (h ≤ m) (And2 (m ≤ c) (And2 (mx.isSome = true → hi.isSome = true) (k (.lit (.slice (some ⟨b, if m = l then o else o + l * n, none⟩) (h - l) (m - l)))))))
  | _ => False
@[congr] theorem sliceD_congr {P : Program} {d : TypeDesc} {v v' : V} {lo lo' hi hi' mx mx' : Option V} {k : V → Prop} (h : Todo v = v') (h1 : Todo lo = lo') (h2 : Todo hi = hi') (h3 : Todo mx = mx') : sliceD P d (Todo v) (Todo lo) (Todo hi) (Todo mx) k = sliceD P d v' lo' hi' mx' k := by rw [← h, ← h1, ← h2, ← h3]
theorem sliceD_string (P : Program) (v : V) (lo hi mx : Option V) (k : V → Prop) : sliceD P .string v lo hi mx k = onStr (Todo v) fun s => And2 (Todo (mx = none)) (bnd (Todo hi) s.size fun h => bnd (Todo lo) 0 fun l => And2 (Todo (l ≤ h)) (And2 (Todo (h ≤ s.size)) (k (.lit (.string (s.extract l h)))))) := eqq rfl
theorem sliceD_slice (P : Program) (e : TypeId) (v : V) (lo hi : Option V) (k : V → Prop) : sliceD P (.slice e) v lo hi none k = onSome (Todo (tsz P e)) fun n => onS (Todo v) n (fun es => bnd (Todo hi) es.length fun h => bnd (Todo lo) 0 fun l => And2 (Todo (l ≤ h)) (And2 (Todo (h ≤ es.length)) (k (.list none n ((es.drop l).take (h - l)))))) fun b o ln c => bnd (Todo none) c fun m => bnd (Todo hi) ln fun h => bnd (Todo lo) 0 fun l => And2 (Todo (l ≤ h)) (And2 (Todo (h ≤ m)) (And2 (Todo (m ≤ c)) (k (.lit (.slice (some ⟨b, if m = l then o else o + l * n, none⟩) (h - l) (m - l)))))) := by
  simp only [sliceD, And2, Todo_eq]; simp
theorem sliceD_slice3 (P : Program) (e : TypeId) (v : V) (lo : Option V) (hi mx : V) (k : V → Prop) : sliceD P (.slice e) v lo (some hi) (some mx) k = onSome (Todo (tsz P e)) fun n => onS (Todo v) n (fun es => bnd (Todo (some hi)) es.length fun h => bnd (Todo lo) 0 fun l => And2 (Todo (l ≤ h)) (And2 (Todo (h ≤ es.length)) (And2 (Todo (bnd (Todo (some mx)) 0 fun m => h ≤ m ∧ m ≤ es.length)) (k (.list none n ((es.drop l).take (h - l))))))) fun b o ln c => bnd (Todo (some mx)) c fun m => bnd (Todo (some hi)) ln fun h => bnd (Todo lo) 0 fun l => And2 (Todo (l ≤ h)) (And2 (Todo (h ≤ m)) (And2 (Todo (m ≤ c)) (k (.lit (.slice (some ⟨b, if m = l then o else o + l * n, none⟩) (h - l) (m - l)))))) := by
  simp only [sliceD, And2, Todo_eq]; simp
@[congr] theorem sliceK_congr {P : Program} {t : TypeId} {v v' : V} {lo lo' hi hi' mx mx' : Option V} {k : V → Prop} (h : Todo v = v') (h1 : Todo lo = lo') (h2 : Todo hi = hi') (h3 : Todo mx = mx') : sliceK P t (Todo v) (Todo lo) (Todo hi) (Todo mx) k = sliceK P t v' lo' hi' mx' k := by rw [← h, ← h1, ← h2, ← h3]
theorem sliceK_eq (P : Program) (t : TypeId) (v : V) (lo hi mx : Option V) (k : V → Prop) : sliceK P t v lo hi mx k = onSome (Todo (P.underlying t)) fun d => sliceD P d v lo hi mx k := by
  simp only [Todo_eq]
  unfold sliceK onSome
  cases P.underlying t with
  | none => rfl
  | some d =>
    cases d <;> (first | rfl | skip)
    case string => cases v with
      | lit x => cases x <;> rfl
      | _ => rfl
    case slice e => simp only [sliceD, onSome]; cases tsz P e <;> rfl

@[congr] theorem buildK_congr {P : Program} {t : TypeId} {ps ps' : List (Nat × V)} {k : V → Prop} (h : Todo ps = ps') : buildK P t (Todo ps) k = buildK P t ps' k := by rw [← h]
theorem buildK_eq (P : Program) (t : TypeId) (ps : List (Nat × V)) (k : V → Prop) : buildK P t ps k = onSome (Todo (tzr P t)) fun z => onSome (Todo (fillV P t (z.map .lit) ps)) fun cs => k (.agg cs) := by
  simp only [Todo_eq]
  unfold buildK onSome
  cases tzr P t with
  | none => rfl
  | some z => simp only []; cases fillV P t (z.map .lit) ps <;> simp

def nilD (v : V) (k : V → Prop) : Prop := nilK v k
@[congr] theorem nilK_congr {v v' : V} {k : V → Prop} (h : Todo v = v') : nilK (Todo v) k = nilK v' k := by rw [← h]
theorem nilK_ptr (a : Addr) (k : V → Prop) : nilK (.lit (.pointer (some a))) k = k (.lit (.pointer (some a))) := eqq rfl
theorem nilK_ref (cs : List V) (k : V → Prop) : nilK (.ref cs) k = k (.ref cs) := eqq rfl
theorem nilK_func (g : FuncId) (a b : Array Value) (k : V → Prop) : nilK (.lit (.func (.func g) a b)) k = k (.lit (.func (.func g) a b)) := eqq rfl

/-! ### Steps that write -/

theorem allocK_eq (P : Program) (S : St) (d : Option Nat) (t : TypeId) (K : St → Prop) : allocK P S d t K = onSome (Todo (tzr P t)) fun z => And2 (Todo (okC (z.map .lit) = true)) (Fresh ((blks S.boxes S.rows)) (fun b => K ((S.addBox b (z.map .lit)).put d (.lit (.pointer (some ⟨b, 0, none⟩))))) .mk) := by
  simp only [Todo_eq]
  unfold allocK onSome And2 Fresh
  cases tzr P t <;> rfl
@[congr] theorem boxK_congr {S : St} {d : Option Nat} {v v' : V} {K : St → Prop} (h : Todo v = v') : boxK S d (Todo v) K = boxK S d v' K := by rw [← h]
theorem boxK_eq (S : St) (d : Option Nat) (v : V) (K : St → Prop) : boxK S d v K = onSome (Todo (cellsV v)) fun cs => And2 (Todo (okC cs = true)) (Fresh ((blks S.boxes S.rows)) (fun b => K ((S.addBox b cs).put d (.lit (.pointer (some ⟨b, 0, none⟩))))) .mk) := by
  simp only [Todo_eq]
  unfold boxK onSome And2 Fresh
  cases cellsV v <;> rfl
def onPtr (v : V) (k : Nat → Nat → Prop) : Prop := match v with | .lit (.pointer (some ⟨b, o, none⟩)) => k b o | _ => False
@[congr] theorem onPtr_congr {v v' : V} {k : Nat → Nat → Prop} (h : Todo v = v') : onPtr (Todo v) k = onPtr v' k := by rw [← h]
theorem onPtr_ptr (b o : Nat) (k : Nat → Nat → Prop) : onPtr (.lit (.pointer (some ⟨b, o, none⟩))) k = k b o := eqq rfl
@[congr] theorem storeK_congr {P : Program} {S : St} {d : Option Nat} {t : TypeId} {p p' v v' : V} {K : St → Prop} (h : Todo p = p') (h' : Todo v = v') : storeK P S d t (Todo p) (Todo v) K = storeK P S d t p' v' K := by rw [← h, ← h']
theorem storeK_eq (P : Program) (S : St) (d : Option Nat) (t : TypeId) (p v : V) (K : St → Prop) : storeK P S d t p v K = onPtr (Todo p) fun b o => onSome (Todo (getB S.boxes b)) fun cs => onSome (Todo (cellsV v)) fun vs => onSome (Todo (tsz P t)) fun n =>
    And2 (Todo (vs.length = n ∧ okC vs = true ∧ o + n ≤ cs.length)) (onVal (Todo (setB S.boxes b (cs.take o ++ vs ++ cs.drop (o + n)))) fun bs => K ((S.setBoxes bs).put d .any)) := by
  have key : ∀ b o, storeK P S d t (.lit (.pointer (some ⟨b, o, none⟩))) v K = onSome (getB S.boxes b) fun cs => onSome (cellsV v) fun vs => onSome (tsz P t) fun n =>
      And2 (vs.length = n ∧ okC vs = true ∧ o + n ≤ cs.length) (onVal (setB S.boxes b (cs.take o ++ vs ++ cs.drop (o + n))) fun bs => K ((S.setBoxes bs).put d .any)) := fun b o => by
    simp only [storeK, onSome, And2, St.setBoxes, onVal]
    cases getB S.boxes b with
    | none => rfl
    | some cs => cases cellsV v with
      | none => rfl
      | some vs => cases tsz P t with
        | none => rfl
        | some n => simp only [and_assoc]
  cases p with
  | lit x => cases x with
    | pointer a => cases a with
      | none => rfl
      | some a =>
        obtain ⟨b, o, sp⟩ := a
        cases sp with
        | none => exact key b o
        | some _ => rfl
    | _ => rfl
  | _ => rfl
@[congr] theorem buildSliceK_congr {P : Program} {S : St} {d : Option Nat} {t : TypeId} {n : Nat} {ps ps' : List (Nat × V)} {K : St → Prop} (h : Todo ps = ps') : buildSliceK P S d t n (Todo ps) K = buildSliceK P S d t n ps' K := by rw [← h]
def sliceOf (d : TypeDesc) (k : TypeId → Prop) : Prop := match d with | .slice e => k e | _ => False
@[congr] theorem sliceOf_congr {d d' : TypeDesc} {k : TypeId → Prop} (h : Todo d = d') : sliceOf (Todo d) k = sliceOf d' k := by rw [← h]
theorem sliceOf_slice (e : TypeId) (k : TypeId → Prop) : sliceOf (.slice e) k = k e := eqq rfl
theorem nilQ_eq (P : Program) (op : BinOp) (t : TypeId) (b : Bool) (K : V → Prop) : nilQ P op t b K = onSome (Todo (P.underlying t)) fun u => sliceOf u fun _ => onSome (Todo (nilB op b)) fun v => K (.lit (.bool v)) := by
  simp only [Todo_eq]
  unfold nilQ onSome sliceOf
  cases P.underlying t with
  | none => simp
  | some u => cases u <;> (first | (cases h : nilB op b <;> simp [h]; done) | simp)
theorem buildSliceK_eq (P : Program) (S : St) (d : Option Nat) (t : TypeId) (n : Nat) (ps : List (Nat × V)) (K : St → Prop) : buildSliceK P S d t n ps K =
    onSome (Todo (P.underlying t)) fun u => sliceOf u fun e => onSome (Todo (tsz P e)) fun k => onSome (Todo (tzr P e)) fun z => And2 (Todo (0 < k ∧ z.length = k ∧ n * k ≤ 16777216)) (onSome (Todo (partsE k 0 ps)) fun es => And2 (Todo (es.length = n)) (AllV fun y => K ((S.addRow ⟨y, k, e⟩).put d (.list (some y) k es)))) := by
  simp only [Todo_eq]
  unfold buildSliceK onSome And2 AllV sliceOf
  cases P.underlying t with
  | none => rfl
  | some u => cases u <;> (first | rfl | skip)
              case slice e => simp only []; cases tsz P e with
                | none => rfl
                | some k => cases tzr P e with
                  | none => rfl
                  | some z => simp only []; cases partsE k 0 ps <;> simp [and_assoc]
@[congr] theorem buildSliceD_congr {P : Program} {t : TypeId} {n : Nat} {ps ps' : List (Nat × V)} {k : V → Prop} (h : Todo ps = ps') : buildSliceD P t n (Todo ps) k = buildSliceD P t n ps' k := by rw [← h]
theorem buildSliceD_eq (P : Program) (t : TypeId) (n : Nat) (ps : List (Nat × V)) (k : V → Prop) : buildSliceD P t n ps k =
    onSome (Todo (P.underlying t)) fun u => sliceOf u fun e => onSome (Todo (tsz P e)) fun c => onSome (Todo (tzr P e)) fun z => And2 (Todo (0 < c ∧ z.length = c ∧ n * c ≤ 16777216)) (onSome (Todo (partsE c 0 ps)) fun es => And2 (Todo (es.length = n)) (k (.list none c es))) := by
  simp only [Todo_eq]
  unfold buildSliceD onSome And2 sliceOf
  cases P.underlying t with
  | none => rfl
  | some u => cases u <;> (first | rfl | skip)
              case slice e => simp only []; cases tsz P e with
                | none => rfl
                | some k => cases tzr P e with
                  | none => rfl
                  | some z => simp only []; cases partsE k 0 ps <;> simp [and_assoc]
@[congr] theorem appendK_congr {P : Program} {S : St} {d : Option Nat} {t : TypeId} {s s' x x' : V} {K : St → Prop} (h : Todo s = s') (h' : Todo x = x') : appendK P S d t (Todo s) (Todo x) K = appendK P S d t s' x' K := by rw [← h, ← h']
@[congr] theorem appD_congr {S : St} {d : Option Nat} {k by_ : Nat} {e : TypeId} {s s' : V} {fs fs' : List (List V)} {K : St → Prop} (h : Todo s = s') (h' : Todo fs = fs') : appD S d k by_ e (Todo s) (Todo fs) K = appD S d k by_ e s' fs' K := by rw [← h, ← h']
theorem appD_nil (S : St) (d : Option Nat) (k by_ : Nat) (e : TypeId) (fs : List (List V)) (K : St → Prop) : appD S d k by_ e (.lit (.slice none 0 0)) fs K = And2 (Todo (fs.length * by_ ≤ 140737488355328)) (AllV fun y => K ((S.addRow ⟨y, k, e⟩).put d (.list (some y) k fs))) := eqq rfl
theorem takeR_single (x : Value) (k : Nat) (e : TypeId) (K : Row → List Row → Prop) : takeR [⟨x, k, e⟩] x K = K ⟨x, k, e⟩ [] := by simp [takeR]
def takeRF (l : List Row) (y : Value) (K : Row → List Row → Prop) (_ : Fix K) : Prop := takeR l y K
theorem takeRF_single (x : Value) (k : Nat) (e : TypeId) (K : Row → List Row → Prop) (p : Fix K) : takeRF [⟨x, k, e⟩] x K p = K ⟨x, k, e⟩ [] := takeR_single x k e K
theorem takeRF_1 {x : Value} {k : Nat} {e : TypeId} {rs : List Row} {K : Row → List Row → Prop} {p : Fix K} (h : K ⟨x, k, e⟩ rs) : takeRF (⟨x, k, e⟩ :: rs) x K p := .inl ⟨rfl, h⟩
theorem takeRF_2 {x : Value} {k : Nat} {e : TypeId} {r : Row} {rs : List Row} {K : Row → List Row → Prop} {p : Fix K} (h : K ⟨x, k, e⟩ (r :: rs)) : takeRF (r :: ⟨x, k, e⟩ :: rs) x K p := .inr (.inl ⟨rfl, h⟩)
theorem Le.nil (k : Nat) : Le (.lit (.slice none 0 0)) (.list none k []) := fun w I x h => by
  simp only [V.rep] at h
  subst h
  simp only [V.rep]
  exact ⟨fun y hy => by simp at hy, none, 0, rfl, Nat.le_refl _, .inl trivial⟩

theorem appD_own (S : St) (d : Option Nat) (k k' by_ : Nat) (e : TypeId) (y : Value) (es fs : List (List V)) (K : St → Prop) : appD S d k by_ e (.list (some y) k' es) fs K =
    And2 (Todo (k' = k)) (takeRF S.rows y (fun r rs => And2 (Todo (r.k = k ∧ r.e = e ∧ (es.length + fs.length) * by_ ≤ 140737488355328)) (AllV fun y' => K ((S.setRows (⟨y', k, e⟩ :: rs)).put d (.list (some y') k (es ++ fs))))) .mk) := eqq rfl
theorem appendK_eq (P : Program) (S : St) (d : Option Nat) (t : TypeId) (sv xv : V) (K : St → Prop) : appendK P S d t sv xv K =
    onSome (Todo (P.underlying t)) fun u => sliceOf u fun e => onSome (Todo (tsz P e)) fun k => onSome (Todo (tby P e)) fun by_ => onSome (Todo (tzr P e)) fun z => And2 (Todo (0 < k ∧ 0 < by_ ∧ z.length = k)) (onL (Todo xv) k fun fs => appD S d k by_ e (Todo sv) (Todo fs) K) := by
  simp only [Todo_eq]
  unfold appendK onSome And2 sliceOf
  cases P.underlying t with
  | none => rfl
  | some u => cases u <;> (first | rfl | skip)
              case slice e => simp only []; cases tsz P e with
                | none => rfl
                | some k => cases tby P e with
                  | none => rfl
                  | some by_ => cases tzr P e with
                    | none => rfl
                    | some z => rfl
@[congr] theorem takeR_congr {l l' : List Row} {y : Value} {K : Row → List Row → Prop} (h : Todo l = l') : takeR (Todo l) y K = takeR l' y K := by rw [← h]
@[congr] theorem callE_congr {P : Program} {S : St} {d : Option Nat} {f f' : V} {as as' : List V} {K : St → Prop} (h : Todo f = f') (h' : Todo as = as') : callE P S d (Todo f) (Todo as) K = callE P S d f' as' K := by rw [← h, ← h']
@[congr] theorem callK_congr {P : Program} {f f' : V} {as as' : List V} {k : V → Prop} (h : Todo f = f') (h' : Todo as = as') : callK P (Todo f) (Todo as) k = callK P f' as' k := by rw [← h, ← h']
/-- A call: what is left to do behind it is left alone; some of the boxes go with it. -/
def OkF (P : Program) (f : FuncId) (zs : List V) (bx : List (Nat × B)) (Q : V → List (Nat × B) → List Row → Prop) (_ : Fix Q) : Prop :=
  ∃ bs lf, bx.Perm (bs ++ lf) ∧ Ok P f zs bs fun v bs' rs => ((bs' ++ lf).map (·.1)).Nodup → Q v (bs' ++ lf) rs
def onB (b : Bool) (A B : Prop) (_ : Fix A) (_ : Fix B) : Prop := match b with | true => A | false => B
theorem onB_t (A B : Prop) (p : Fix A) (q : Fix B) : onB true A B p q = A := eqq rfl
theorem onB_f (A B : Prop) (p : Fix A) (q : Fix B) : onB false A B p q = B := eqq rfl
/-- A function without a body. -/
def ExtF (P : Program) (S : St) (g : FuncId) (zs : List V) (K : V → Prop) (_ : Fix K) : Prop := ∃ v, ExtV P S g zs v ∧ K v
theorem ExtF_of {P : Program} {S : St} {g : FuncId} {zs : List V} {K : V → Prop} {p : Fix K} (v : V) (h : ExtV P S g zs v) (hk : K v) : ExtF P S g zs K p := ⟨v, h, hk⟩
theorem callE_func (P : Program) (S : St) (d : Option Nat) (g : FuncId) (first cap : Array Value) (as : List V) (K : St → Prop) : callE P S d (.lit (.func (.func g) first cap)) as K =
    onB (callB P g) (OkF P g (first.toList.map .lit ++ as ++ cap.toList.map .lit) S.boxes (fun v bs rs => K (((S.setBoxes bs).setRows (rs ++ S.rows)).put d v)) .mk) (ExtF P S g (first.toList.map .lit ++ as ++ cap.toList.map .lit) (fun v => K (S.put d v)) .mk) .mk .mk := by
  simp only [callE]
  cases callB P g <;> rfl
/-- A call in a drawn region: one value. -/
def CallV (P : Program) (g : FuncId) (as : List V) (k : V → Prop) (_ : Fix k) : Prop := ∃ v, OkV P g as v ∧ k v
theorem callK_func (P : Program) (g : FuncId) (first cap : Array Value) (as : List V) (k : V → Prop) : callK P (.lit (.func (.func g) first cap)) as k = And2 (Todo (callB P g = true)) (CallV P g (first.toList.map .lit ++ as ++ cap.toList.map .lit) k .mk) := eqq rfl
theorem CallV_of {P : Program} {g : FuncId} {as : List V} {k : V → Prop} {p : Fix k} (v : V) (h : OkV P g as v) (hk : k v) : CallV P g as k p := ⟨v, h, hk⟩
/-- A call's contract with no boxes handed over, put in. -/
theorem OkF_of {P : Program} {g : FuncId} {zs : List V} {bx : List (Nat × B)} {Q : V → List (Nat × B) → List Row → Prop} {p : Fix Q} (v : V) (h : OkP P g zs v) (hk : Q v bx []) : OkF P g zs bx Q p :=
  ⟨[], bx, List.Perm.refl _, Ok.mono h fun v' bs rs ⟨e, e', e''⟩ => by subst e; subst e'; subst e''; exact fun _ => hk⟩
/-- With boxes. -/
theorem OkF_with {P : Program} {g : FuncId} {zs : List V} {bx : List (Nat × B)} {Q : V → List (Nat × B) → List Row → Prop} {p : Fix Q} (bs lf : List (Nat × B)) (hp : bx.Perm (bs ++ lf)) {Q0 : V → List (Nat × B) → List Row → Prop} (h : Ok P g zs bs Q0) (hk : ∀ v bs' rs, Q0 v bs' rs → Q v (bs' ++ lf) rs) : OkF P g zs bx Q p :=
  ⟨bs, lf, hp, Ok.mono h fun v bs' rs hq _ => hk v bs' rs hq⟩
/-- With boxes; all are different. -/
theorem OkF_withN {P : Program} {g : FuncId} {zs : List V} {bx : List (Nat × B)} {Q : V → List (Nat × B) → List Row → Prop} {p : Fix Q} (bs lf : List (Nat × B)) (hp : bx.Perm (bs ++ lf)) {Q0 : V → List (Nat × B) → List Row → Prop} (h : Ok P g zs bs Q0) (hk : ∀ v bs' rs, Q0 v bs' rs → ((bs' ++ lf).map (·.1)).Nodup → Q v (bs' ++ lf) rs) : OkF P g zs bx Q p :=
  ⟨bs, lf, hp, Ok.mono h hk⟩
/-- With no boxes, but something handed back. -/
theorem OkF_back {P : Program} {g : FuncId} {zs : List V} {bx : List (Nat × B)} {Q : V → List (Nat × B) → List Row → Prop} {p : Fix Q} {Q0 : V → List (Nat × B) → List Row → Prop} (h : Ok P g zs [] Q0) (hk : ∀ v bs' rs, Q0 v bs' rs → Q v (bs' ++ bx) rs) : OkF P g zs bx Q p :=
  ⟨[], bx, List.Perm.refl _, Ok.mono h fun v bs' rs hq _ => hk v bs' rs hq⟩

/-! ### Stretches of boxes -/

/-- A choice that is left to the prover. -/
def Or2 (A B : Prop) (_ : Fix A) (_ : Fix B) : Prop := A ∨ B
theorem Or2.l {A B : Prop} {p : Fix A} {q : Fix B} (h : A) : Or2 A B p q := .inl h
theorem Or2.r {A B : Prop} {p : Fix A} {q : Fix B} (h : B) : Or2 A B p q := .inr h
/-- A test of a fact on numbers. -/
def If2 (c : Prop) [Decidable c] (A B : Prop) (_ : Fix A) (_ : Fix B) : Prop := if c then A else B
theorem If2_t (A B : Prop) (p : Fix A) (q : Fix B) (i : Decidable True) : @If2 True i A B p q = A := by simp [If2]
theorem If2_f (A B : Prop) (p : Fix A) (q : Fix B) (i : Decidable False) : @If2 False i A B p q = B := by simp [If2]
theorem If2_split {c : Prop} [Decidable c] {A B : Prop} {p : Fix A} {q : Fix B} (h : c → A) (h' : ¬ c → B) : If2 c A B p q := by
  unfold If2
  split
  · exact h ‹_›
  · exact h' ‹_›
def Fresh2 (l : List Nat) (n : Nat) (K : Nat → Nat → Prop) (_ : Fix K) : Prop := ∀ b c, b ∉ l → n ≤ c → K b c

def srcD (S : St) (u : TypeDesc) (k : Nat) (x : V) (K : Nat → List V → Prop) : Prop :=
  match u, x with
  | .slice _, .list _ k' es => k' = k ∧ K es.length es.flatten
  | .slice _, .lit (.slice none 0 0) => K 0 []
  | .slice _, .lit (.slice (some ⟨b, o, none⟩) n _) => match getB S.boxes b with
    | some cs => o + n * k ≤ cs.length ∧ K n ((cs.drop o).take (n * k))
    | none => False
  | .string, .lit (.string s) => k = 1 ∧ K s.size (bytesV s)
  | _, _ => False
@[congr] theorem srcD_congr {S : St} {u : TypeDesc} {k : Nat} {x x' : V} {K : Nat → List V → Prop} (h : Todo x = x') : srcD S u k (Todo x) K = srcD S u k x' K := by rw [← h]
@[congr] theorem srcK_congr {P : Program} {S : St} {tx : TypeId} {k : Nat} {x x' : V} {K : Nat → List V → Prop} (h : Todo x = x') : srcK P S tx k (Todo x) K = srcK P S tx k x' K := by rw [← h]
theorem srcD_list (S : St) (e : TypeId) (k : Nat) (a : Option Value) (k' : Nat) (es : List (List V)) (K : Nat → List V → Prop) : srcD S (.slice e) k (.list a k' es) K = And2 (Todo (k' = k)) (K es.length es.flatten) := eqq rfl
theorem srcD_nil (S : St) (e : TypeId) (k : Nat) (K : Nat → List V → Prop) : srcD S (.slice e) k (.lit (.slice none 0 0)) K = K 0 [] := eqq rfl
theorem srcD_box (S : St) (e : TypeId) (k b o n c : Nat) (K : Nat → List V → Prop) : srcD S (.slice e) k (.lit (.slice (some ⟨b, o, none⟩) n c)) K = onSome (Todo (getB S.boxes b)) fun cs => And2 (Todo (o + n * k ≤ cs.length)) (K n ((cs.drop o).take (n * k))) := by
  simp only [srcD, onSome, Todo_eq]; cases getB S.boxes b <;> rfl
theorem srcD_str (S : St) (k : Nat) (s : ByteArray) (K : Nat → List V → Prop) : srcD S .string k (.lit (.string s)) K = And2 (Todo (k = 1)) (K s.size (bytesV s)) := eqq rfl
theorem srcK_eq (P : Program) (S : St) (tx : TypeId) (k : Nat) (x : V) (K : Nat → List V → Prop) : srcK P S tx k x K = onSome (Todo (P.underlying tx)) fun u => srcD S u k x K := by
  simp only [Todo_eq]
  unfold srcK onSome
  cases P.underlying tx with
  | none => rfl
  | some u => cases u <;> first | rfl | (cases x with
    | lit y => cases y with
      | slice a n c => cases a with
        | none => cases n <;> cases c <;> rfl
        | some a => obtain ⟨b, o, sp⟩ := a; cases sp <;> rfl
      | _ => rfl
    | _ => rfl)

def appMD' (S : St) (d : Option Nat) (k by_ : Nat) (s : V) (m : Nat) (fs : List V) (K : St → Prop) : Prop := appMD S d k by_ s m fs K
def appAD (S : St) (d : Option Nat) (k by_ : Nat) (s : V) (m : Nat) (fs : List V) (K : St → Prop) : Prop :=
  match s with
  | .lit (.slice none 0 0) => 0 < m ∧ m * by_ ≤ 140737488355328 ∧ ∀ b c, b ∉ blks S.boxes S.rows → m ≤ c → K ((S.addBox b (fs ++ anys ((c - m) * k))).put d (.lit (.slice (some ⟨b, 0, none⟩) m c)))
  | .lit (.slice (some ⟨b, 0, none⟩) n c) => match getB S.boxes b with
    | some cs => cs.length = c * k ∧ n ≤ c ∧ (n + m) * by_ ≤ 140737488355328 ∧ ∀ b' c', b' ∉ blks (remB S.boxes b) S.rows → n + m ≤ c' →
        K ((S.setBoxes ((b', .c (cs.take (n * k) ++ fs ++ anys ((c' - (n + m)) * k))) :: remB S.boxes b)).put d (.lit (.slice (some ⟨b', 0, none⟩) (n + m) c')))
    | none => False
  | _ => False
@[congr] theorem appMD_congr {S : St} {d : Option Nat} {k by_ m : Nat} {s s' : V} {fs fs' : List V} {K : St → Prop} (h : Todo s = s') (h' : Todo fs = fs') : appMD S d k by_ (Todo s) m (Todo fs) K = appMD S d k by_ s' m fs' K := by rw [← h, ← h']
@[congr] theorem appAD_congr {S : St} {d : Option Nat} {k by_ m : Nat} {s s' : V} {fs fs' : List V} {K : St → Prop} (h : Todo s = s') (h' : Todo fs = fs') : appAD S d k by_ (Todo s) m (Todo fs) K = appAD S d k by_ s' m fs' K := by rw [← h, ← h']
theorem appMD_box (S : St) (d : Option Nat) (k by_ b o n c m : Nat) (fs : List V) (K : St → Prop) : appMD S d k by_ (.lit (.slice (some ⟨b, o, none⟩) n c)) m fs K = onSome (Todo (getB S.boxes b)) fun cs => And2 (Todo (o + c * k ≤ cs.length ∧ n ≤ c))
    (If2 (n + m ≤ c) (K ((S.setBoxes (setB S.boxes b (cs.take (o + n * k) ++ fs ++ cs.drop (o + n * k + m * k)))).put d (.lit (.slice (some ⟨b, o, none⟩) (n + m) c))))
      (And2 (Todo ((n + m) * by_ ≤ 140737488355328)) (Fresh2 (blks S.boxes S.rows) (n + m) (fun b' c' => K ((S.addBox b' ((cs.drop o).take (n * k) ++ fs ++ anys ((c' - (n + m)) * k))).put d (.lit (.slice (some ⟨b', 0, none⟩) (n + m) c')))) .mk)) .mk .mk) := by
  simp only [appMD, onSome, Todo_eq]
  cases getB S.boxes b with
  | none => rfl
  | some cs => simp only [And2, If2, onIf, Fresh2, and_assoc, Todo_eq]
theorem appAD_nil (S : St) (d : Option Nat) (k by_ m : Nat) (fs : List V) (K : St → Prop) : appAD S d k by_ (.lit (.slice none 0 0)) m fs K =
    And2 (Todo (0 < m ∧ m * by_ ≤ 140737488355328)) (Fresh2 (blks S.boxes S.rows) m (fun b c => K ((S.addBox b (fs ++ anys ((c - m) * k))).put d (.lit (.slice (some ⟨b, 0, none⟩) m c)))) .mk) := by
  simp only [appAD, And2, Fresh2, Todo_eq, and_assoc]
theorem appAD_box (S : St) (d : Option Nat) (k by_ b n c m : Nat) (fs : List V) (K : St → Prop) : appAD S d k by_ (.lit (.slice (some ⟨b, 0, none⟩) n c)) m fs K = onSome (Todo (getB S.boxes b)) fun cs =>
    And2 (Todo (cs.length = c * k ∧ n ≤ c ∧ (n + m) * by_ ≤ 140737488355328)) (Fresh2 (blks (remB S.boxes b) S.rows) (n + m) (fun b' c' =>
        K ((S.setBoxes ((b', .c (cs.take (n * k) ++ fs ++ anys ((c' - (n + m)) * k))) :: remB S.boxes b)).put d (.lit (.slice (some ⟨b', 0, none⟩) (n + m) c')))) .mk) := by
  simp only [appAD, onSome, Todo_eq]
  cases getB S.boxes b with
  | none => rfl
  | some cs => simp only [And2, Fresh2, and_assoc]
theorem appMK_eq (P : Program) (S : St) (d : Option Nat) (t tx : TypeId) (s x : V) (K : St → Prop) : appMK P S d t tx s x K =
    onSome (Todo (P.underlying t)) fun u => sliceOf u fun e => onSome (Todo (tsz P e)) fun k => onSome (Todo (tby P e)) fun by_ => onSome (Todo (tzr P e)) fun z => And2 (Todo (0 < by_ ∧ z.length = k ∧ okC (z.map .lit) = true)) (srcK P S tx k (Todo x) fun m fs => appMD S d k by_ (Todo s) m (Todo fs) K) := by
  simp only [Todo_eq]
  unfold appMK onSome And2 sliceOf
  cases P.underlying t with
  | none => rfl
  | some u => cases u <;> (first | rfl | skip)
              case slice e => simp only []; cases tsz P e with
                | none => rfl
                | some k => cases tby P e with
                  | none => rfl
                  | some by_ => cases tzr P e with
                    | none => rfl
                    | some z => simp only [and_assoc]
theorem appAK_eq (P : Program) (S : St) (d : Option Nat) (t tx : TypeId) (s x : V) (K : St → Prop) : appAK P S d t tx s x K =
    onSome (Todo (P.underlying t)) fun u => sliceOf u fun e => onSome (Todo (tsz P e)) fun k => onSome (Todo (tby P e)) fun by_ => onSome (Todo (tzr P e)) fun z => And2 (Todo (0 < by_ ∧ z.length = k ∧ okC (z.map .lit) = true)) (srcK P S tx k (Todo x) fun m fs => appAD S d k by_ (Todo s) m (Todo fs) K) := by
  simp only [Todo_eq]
  unfold appAK onSome And2 sliceOf
  cases P.underlying t with
  | none => rfl
  | some u => cases u <;> (first | rfl | skip)
              case slice e => simp only []; cases tsz P e with
                | none => rfl
                | some k => cases tby P e with
                  | none => rfl
                  | some by_ => cases tzr P e with
                    | none => rfl
                    | some z => simp only [and_assoc]; rfl
@[congr] theorem appendAny_congr {P : Program} {S : St} {d : Option Nat} {t tx : TypeId} {s s' x x' : V} {K : St → Prop} (h : Todo s = s') (h' : Todo x = x') : appendAny P S d t tx (Todo s) (Todo x) K = appendAny P S d t tx s' x' K := by rw [← h, ← h']
theorem appendAny_own (P : Program) (S : St) (d : Option Nat) (t tx : TypeId) (a a' : Option Value) (k k' : Nat) (es es' : List (List V)) (K : St → Prop) : appendAny P S d t tx (.list a k es) (.list a' k' es') K = And2 (Todo (tx = t)) (appendK P S d t (.list a k es) (.list a' k' es') K) := eqq rfl
theorem appendAny_ownN (P : Program) (S : St) (d : Option Nat) (t tx : TypeId) (a : Option Value) (k : Nat) (es : List (List V)) (x : Option Addr) (n c : Nat) (K : St → Prop) : appendAny P S d t tx (.list a k es) (.lit (.slice x n c)) K = And2 (Todo (tx = t)) (appendK P S d t (.list a k es) (.lit (.slice x n c)) K) := eqq rfl
theorem appendAny_ownS (P : Program) (S : St) (d : Option Nat) (t tx : TypeId) (a : Option Value) (k : Nat) (es : List (List V)) (b : ByteArray) (K : St → Prop) : appendAny P S d t tx (.list a k es) (.lit (.string b)) K = appSK P S d t tx (.list a k es) b K := eqq rfl
theorem appSK_eq (P : Program) (S : St) (d : Option Nat) (t tx : TypeId) (sv : V) (b : ByteArray) (K : St → Prop) : appSK P S d t tx sv b K =
    onSome (Todo (P.underlying t)) fun u => sliceOf u fun e => onSome (Todo (tsz P e)) fun k => onSome (Todo (tby P e)) fun by_ => onSome (Todo (tzr P e)) fun z => And2 (Todo (P.underlying tx = some .string ∧ k = 1 ∧ 0 < by_ ∧ z.length = k)) (appD S d k by_ e (Todo sv) (strE b) K) := by
  simp only [Todo_eq]
  unfold appSK onSome And2 sliceOf
  cases P.underlying t with
  | none => rfl
  | some u => cases u <;> (first | rfl | skip)
              case slice e => simp only []; cases tsz P e with
                | none => rfl
                | some k => cases tby P e with
                  | none => rfl
                  | some by_ => cases tzr P e with
                    | none => rfl
                    | some z => rfl
theorem appendAny_nil (P : Program) (S : St) (d : Option Nat) (t tx : TypeId) (n c : Nat) (x : V) (K : St → Prop) : appendAny P S d t tx (.lit (.slice none n c)) x K = Or2 (And2 (Todo (tx = t)) (appendK P S d t (.lit (.slice none n c)) x K)) (appAK P S d t tx (.lit (.slice none n c)) x K) .mk .mk := eqq rfl
theorem appendAny_zeros (P : Program) (S : St) (d : Option Nat) (t tx : TypeId) (a : Addr) (n c : Nat) (kk : IntKind) (j : Int) (K : St → Prop) : appendAny P S d t tx (.lit (.slice (some a) n c)) (.lit (.int kk j)) K = appZK P S d t tx (.lit (.slice (some a) n c)) (.lit (.int kk j)) K := eqq rfl
theorem appendAny_list (P : Program) (S : St) (d : Option Nat) (t tx : TypeId) (a : Addr) (n c : Nat) (o : Option Value) (k : Nat) (es : List (List V)) (K : St → Prop) : appendAny P S d t tx (.lit (.slice (some a) n c)) (.list o k es) K = Or2 (appMK P S d t tx (.lit (.slice (some a) n c)) (.list o k es) K) (appAK P S d t tx (.lit (.slice (some a) n c)) (.list o k es) K) .mk .mk := eqq rfl
theorem appendAny_slice (P : Program) (S : St) (d : Option Nat) (t tx : TypeId) (a : Addr) (n c : Nat) (a' : Option Addr) (n' c' : Nat) (K : St → Prop) : appendAny P S d t tx (.lit (.slice (some a) n c)) (.lit (.slice a' n' c')) K = Or2 (appMK P S d t tx (.lit (.slice (some a) n c)) (.lit (.slice a' n' c')) K) (appAK P S d t tx (.lit (.slice (some a) n c)) (.lit (.slice a' n' c')) K) .mk .mk := eqq rfl
theorem appendAny_str (P : Program) (S : St) (d : Option Nat) (t tx : TypeId) (a : Addr) (n c : Nat) (b : ByteArray) (K : St → Prop) : appendAny P S d t tx (.lit (.slice (some a) n c)) (.lit (.string b)) K = Or2 (appMK P S d t tx (.lit (.slice (some a) n c)) (.lit (.string b)) K) (appAK P S d t tx (.lit (.slice (some a) n c)) (.lit (.string b)) K) .mk .mk := eqq rfl

def copyD (S : St) (d : Option Nat) (k : Nat) (s : V) (m : Nat) (fs : List V) (K : St → Prop) : Prop :=
  match s with
  | .lit (.slice none 0 0) => K (S.put d (.lit (.int .i64 0)))
  | .lit (.slice (some ⟨b, o, none⟩) n _) => match getB S.boxes b with
    | some cs => o + n * k ≤ cs.length ∧ K ((S.setBoxes (setB S.boxes b (cs.take o ++ fs.take (min m n * k) ++ cs.drop (o + min m n * k)))).put d (.lit (.int .i64 (min m n : Nat))))
    | none => False
  | _ => False
@[congr] theorem copyD_congr {S : St} {d : Option Nat} {k m : Nat} {s s' : V} {fs fs' : List V} {K : St → Prop} (h : Todo s = s') (h' : Todo fs = fs') : copyD S d k (Todo s) m (Todo fs) K = copyD S d k s' m fs' K := by rw [← h, ← h']
theorem copyD_nil (S : St) (d : Option Nat) (k m : Nat) (fs : List V) (K : St → Prop) : copyD S d k (.lit (.slice none 0 0)) m fs K = K (S.put d (.lit (.int .i64 0))) := eqq rfl
theorem copyD_box (S : St) (d : Option Nat) (k b o n c m : Nat) (fs : List V) (K : St → Prop) : copyD S d k (.lit (.slice (some ⟨b, o, none⟩) n c)) m fs K = onSome (Todo (getB S.boxes b)) fun cs => And2 (Todo (o + n * k ≤ cs.length))
    (K ((S.setBoxes (setB S.boxes b (cs.take o ++ fs.take (min m n * k) ++ cs.drop (o + min m n * k)))).put d (.lit (.int .i64 (min m n : Nat))))) := by
  simp only [copyD, onSome, Todo_eq]
  cases getB S.boxes b <;> rfl
theorem copyK_eq (P : Program) (S : St) (d : Option Nat) (t tx : TypeId) (s x : V) (K : St → Prop) : copyK P S d t tx s x K =
    onSome (Todo (P.underlying t)) fun u => sliceOf u fun e => onSome (Todo (tsz P e)) fun k => srcK P S tx k (Todo x) fun m fs => copyD S d k (Todo s) m (Todo fs) K := by
  simp only [Todo_eq]
  unfold copyK onSome sliceOf
  cases P.underlying t with
  | none => rfl
  | some u => cases u <;> (first | rfl | skip)
              case slice e => simp only []; cases tsz P e <;> rfl
def makeSliceD (P : Program) (S : St) (d : Option Nat) (u : TypeDesc) (l c : Int) (K : St → Prop) : Prop := sliceOf u fun e => onSome (tsz P e) fun k => onSome (tby P e) fun by_ => onSome (tzr P e) fun z =>
  And2 (z.length = k ∧ 0 < k ∧ okC (z.map .lit) = true) (And2 (0 ≤ l ∧ l ≤ c ∧ c.toNat * by_ ≤ 140737488355328 ∧ c ≤ 140737488355328) (Fresh (blks S.boxes S.rows) (fun b => K ((S.addBox b ((List.replicate c.toNat (z.map V.lit)).flatten)).put d (.lit (.slice (some ⟨b, 0, none⟩) l.toNat c.toNat)))) .mk))
@[congr] theorem makeSliceK_congr {P : Program} {S : St} {d : Option Nat} {t : TypeId} {l l' c c' : V} {K : St → Prop} (h : Todo l = l') (h' : Todo c = c') : makeSliceK P S d t (Todo l) (Todo c) K = makeSliceK P S d t l' c' K := by rw [← h, ← h']
theorem makeSliceK_int (P : Program) (S : St) (d : Option Nat) (t : TypeId) (kl kc : IntKind) (l c : Int) (K : St → Prop) : makeSliceK P S d t (.lit (.int kl l)) (.lit (.int kc c)) K =
    onSome (Todo (P.underlying t)) fun u => sliceOf u fun e => onSome (Todo (tsz P e)) fun k => onSome (Todo (tby P e)) fun by_ => onSome (Todo (tzr P e)) fun z =>
      And2 (Todo (z.length = k ∧ 0 < k ∧ okC (z.map .lit) = true)) (And2 (Todo (0 ≤ l ∧ l ≤ c ∧ c.toNat * by_ ≤ 140737488355328 ∧ c ≤ 140737488355328)) (Fresh (blks S.boxes S.rows) (fun b => K ((S.addBox b ((List.replicate c.toNat (z.map V.lit)).flatten)).put d (.lit (.slice (some ⟨b, 0, none⟩) l.toNat c.toNat)))) .mk)) := by
  simp only [Todo_eq]
  unfold makeSliceK onSome sliceOf And2 Fresh
  cases P.underlying t with
  | none => rfl
  | some u => cases u <;> (first | rfl | skip)
              case slice e => simp only []; cases tsz P e with
                | none => rfl
                | some k => cases tby P e with
                  | none => rfl
                  | some by_ => cases tzr P e with
                    | none => rfl
                    | some z => simp only [and_assoc]
theorem appZK_int (P : Program) (S : St) (d : Option Nat) (t tx : TypeId) (b o n c : Nat) (kk : IntKind) (j : Int) (K : St → Prop)
    (h : onSome (P.underlying t) fun u => sliceOf u fun e => onSome (P.underlying tx) fun ux => (∃ q, ux = .int q) ∧ onSome (tsz P e) fun k => onSome (tby P e) fun by_ => onSome (tzr P e) fun z => onSome (getB S.boxes b) fun cs =>
      (0 < by_ ∧ 0 < k ∧ z.length = k ∧ okC (z.map .lit) = true) ∧ 0 < j ∧ o + n * k ≤ cs.length ∧ c < n + j.toNat ∧ (n + j.toNat) * by_ ≤ 140737488355328 ∧
        ∀ b' c', b' ∉ blks S.boxes S.rows → n + j.toNat ≤ c' → K ((S.addBox b' ((cs.drop o).take (n * k) ++ anys ((c' - n) * k))).put d (.lit (.slice (some ⟨b', 0, none⟩) (n + j.toNat) c')))) :
    appZK P S d t tx (.lit (.slice (some ⟨b, o, none⟩) n c)) (.lit (.int kk j)) K := by
  unfold onSome at h
  unfold appZK
  cases hu : P.underlying t with
  | none => simp only [hu] at h
  | some u =>
    simp only [hu] at h
    cases u <;> simp only [sliceOf] at h
    case slice e =>
      cases hx : P.underlying tx with
      | none => simp only [hx] at h
      | some ux =>
        simp only [hx] at h
        obtain ⟨⟨q, rfl⟩, h⟩ := h
        simp only []
        cases hk : tsz P e with
        | none => simp only [hk] at h
        | some k => cases hby : tby P e with
          | none => simp only [hk, hby] at h
          | some by_ => cases hz : tzr P e with
            | none => simp only [hk, hby, hz] at h
            | some z => cases hb : getB S.boxes b with
              | none => simp only [hk, hby, hz, hb] at h
              | some cs =>
                simp only [hk, hby, hz, hb] at h
                obtain ⟨⟨g1, g2, g3, g4⟩, h⟩ := h
                exact ⟨g1, g2, g3, g4, h⟩

end Go.VL

/- The V logic, part N: maps as equations for simp. -/
namespace Go.VL
open Go.RowKit

def onMapT (o : Option (TypeId × (List Sh × Bool) × V)) (k : (List Sh × Bool) → V → Prop) : Prop := match o with | some (_, ks, z) => k ks z | none => False
@[congr] theorem onMapT_congr {o o' : Option (TypeId × (List Sh × Bool) × V)} {k : (List Sh × Bool) → V → Prop} (h : Todo o = o') : onMapT (Todo o) k = onMapT o' k := by rw [← h]
theorem onMapT_some (t : TypeId) (ks : List Sh × Bool) (z : V) (k : (List Sh × Bool) → V → Prop) : onMapT (some (t, ks, z)) k = k ks z := eqq rfl
def onM (o : Option ((List Sh × Bool) × List Ent × Nat)) (k : (List Sh × Bool) → List Ent → Nat → Prop) : Prop := match o with | some (ks, es, cl) => k ks es cl | none => False
@[congr] theorem onM_congr {o o' : Option ((List Sh × Bool) × List Ent × Nat)} {k : (List Sh × Bool) → List Ent → Nat → Prop} (h : Todo o = o') : onM (Todo o) k = onM o' k := by rw [← h]
theorem onM_some (ks : List Sh × Bool) (es : List Ent) (cl : Nat) (k : (List Sh × Bool) → List Ent → Nat → Prop) : onM (some (ks, es, cl)) k = k ks es cl := eqq rfl
def onI (o : Option (Nat × Nat × List Nat × Nat)) (k : Nat → Nat → List Nat → Nat → Prop) : Prop := match o with | some (a, b, c, d) => k a b c d | none => False
@[congr] theorem onI_congr {o o' : Option (Nat × Nat × List Nat × Nat)} {k : Nat → Nat → List Nat → Nat → Prop} (h : Todo o = o') : onI (Todo o) k = onI o' k := by rw [← h]
theorem onI_some (a b : Nat) (c : List Nat) (d : Nat) (k : Nat → Nat → List Nat → Nat → Prop) : onI (some (a, b, c, d)) k = k a b c d := eqq rfl
theorem onFind_some (v : V) (A : V → Prop) (B : Prop) (p : Fix A) (q : Fix B) : onFind (some v) A B p q = A v := eqq rfl
theorem onFind_none (A : V → Prop) (B : Prop) (p : Fix A) (q : Fix B) : onFind none A B p q = B := eqq rfl

section
variable {P : Program} {S : St} {d : Option Nat}
theorem makeMapK_eq (t : TypeId) (K : St → Prop) : makeMapK P S d t none K = onMapT (Todo (mapT P t)) fun ks _ => Fresh (blks S.boxes S.rows) (fun b => K ((S.addB b (.m ks [] 0)).put d (.lit (.map (some b))))) .mk := by
  simp only [Todo_eq]
  unfold makeMapK onMapT Fresh
  cases mapT P t with
  | none => rfl
  | some x => obtain ⟨a, b, c⟩ := x; simp
theorem makeMapK_eqr (t : TypeId) (k : IntKind) (n : Int) (K : St → Prop) : makeMapK P S d t (some (.lit (.int k n))) K = onMapT (Todo (mapT P t)) fun ks _ => Fresh (blks S.boxes S.rows) (fun b => K ((S.addB b (.m ks [] 0)).put d (.lit (.map (some b))))) .mk := by
  simp only [Todo_eq]
  unfold makeMapK onMapT Fresh
  cases mapT P t with
  | none => rfl
  | some x => obtain ⟨a, b, c⟩ := x; simp
theorem lookK_eq (t : TypeId) (x k : V) (ok : Bool) (K : V → Prop) : lookK P S t x k ok K = onMapT (Todo (mapT P t)) fun ks z => onSome (Todo (keyV k)) fun kv => And2 (Todo (keyS ks kv = true)) (lookD S ks z kv (Todo x) ok K) := by
  simp only [Todo_eq]
  unfold lookK onMapT
  cases mapT P t with
  | none => rfl
  | some y => obtain ⟨a, b, c⟩ := y; simp only []; cases keyV k <;> rfl
@[congr] theorem lookD_congr {ks : List Sh × Bool} {z : V} {kv : Value} {x x' : V} {ok : Bool} {K : V → Prop} (h : Todo x = x') : lookD S ks z kv (Todo x) ok K = lookD S ks z kv x' ok K := by rw [← h]
theorem lookD_nil (ks : List Sh × Bool) (z : V) (kv : Value) (K : V → Prop) : lookD S ks z kv (.lit (.map none)) true K = K (.tup [z, .lit (.bool false)]) := eqq rfl
theorem lookD_nil' (ks : List Sh × Bool) (z : V) (kv : Value) (K : V → Prop) : lookD S ks z kv (.lit (.map none)) false K = K z := eqq rfl
theorem lookD_box (ks : List Sh × Bool) (z : V) (kv : Value) (b : Nat) (K : V → Prop) : lookD S ks z kv (.lit (.map (some b))) true K = onM (Todo (getM S.boxes b)) fun ks' es _ => And2 (Todo (ks' = ks)) (onFind (findM es kv) (fun v => K (.tup [v, .lit (.bool true)])) (K (.tup [z, .lit (.bool false)])) .mk .mk) := by
  simp only [Todo_eq, lookD]
  unfold onM
  generalize getM S.boxes b = o
  cases o with
  | none => rfl
  | some y => obtain ⟨a, b, c⟩ := y; rfl
theorem lookD_box' (ks : List Sh × Bool) (z : V) (kv : Value) (b : Nat) (K : V → Prop) : lookD S ks z kv (.lit (.map (some b))) false K = onM (Todo (getM S.boxes b)) fun ks' es _ => And2 (Todo (ks' = ks)) (onFind (findM es kv) (fun v => K v) (K z) .mk .mk) := by
  simp only [Todo_eq, lookD]
  unfold onM
  generalize getM S.boxes b = o
  cases o with
  | none => rfl
  | some y => obtain ⟨a, b, c⟩ := y; rfl
theorem updK_eq (t : TypeId) (x k v : V) (K : St → Prop) : updK P S d t x k v K = onMapT (Todo (mapT P t)) fun ks _ => onSome (Todo (keyV k)) fun kv => And2 (Todo (keyS ks kv = true)) (updD S d ks kv (Todo x) (Todo v) K) := by
  simp only [Todo_eq]
  unfold updK onMapT
  cases mapT P t with
  | none => rfl
  | some y => obtain ⟨a, b, c⟩ := y; simp only []; cases keyV k <;> rfl
@[congr] theorem updD_congr {ks : List Sh × Bool} {kv : Value} {x x' v v' : V} {K : St → Prop} (h : Todo x = x') (h' : Todo v = v') : updD S d ks kv (Todo x) (Todo v) K = updD S d ks kv x' v' K := by rw [← h, ← h']
theorem updD_box (ks : List Sh × Bool) (kv : Value) (b : Nat) (v : V) (K : St → Prop) : updD S d ks kv (.lit (.map (some b))) v K = onM (Todo (getM S.boxes b)) fun ks' es cl => And2 (Todo (ks' = ks))
    (onFind (findM es kv) (fun _ => K ((S.setBoxes (setX S.boxes b (.m ks (modM kv v es) cl))).put d .any)) (K ((S.setBoxes (setX S.boxes b (.m ks (es ++ [(cl, kv, v)]) (cl + 1)))).put d .any)) .mk .mk) := by
  simp only [Todo_eq, updD]
  unfold onM
  generalize getM S.boxes b = o
  cases o with
  | none => rfl
  | some y => obtain ⟨a, b, c⟩ := y; rfl

def mapOf (u : TypeDesc) (A : Prop) (_ : Fix A) : Prop := match u with | .map _ _ => A | _ => False
theorem mapOf_map (k e : TypeId) (A : Prop) (p : Fix A) : mapOf (.map k e) A p = A := eqq rfl
def rangeD (S : St) (d : Option Nat) (x : V) (K : St → Prop) : Prop :=
  match x with
  | .lit (.map (some b)) => match getM S.boxes b with
    | some (_, _, cl) => ∀ ib, ib ∉ blks S.boxes S.rows → K ((S.addB ib (.it b cl [] cl)).put d (.lit (.pointer (some ⟨ib, 0, none⟩))))
    | none => False
  | _ => False
@[congr] theorem rangeD_congr {x x' : V} {K : St → Prop} (h : Todo x = x') : rangeD S d (Todo x) K = rangeD S d x' K := by rw [← h]
theorem rangeK_eq (t : TypeId) (x : V) (K : St → Prop) : rangeK P S d t x K = onSome (Todo (P.underlying t)) fun u => mapOf u (rangeD S d (Todo x) K) .mk := by
  simp only [Todo_eq]
  unfold rangeK onSome mapOf rangeD
  cases P.underlying t with
  | none => rfl
  | some u => cases u <;> (first | rfl | skip)
              case map k e => cases x with
                | lit y => cases y with
                  | map b => cases b <;> rfl
                  | _ => rfl
                | _ => rfl
theorem rangeD_box (b : Nat) (K : St → Prop) : rangeD S d (.lit (.map (some b))) K = onM (Todo (getM S.boxes b)) fun _ _ cl => Fresh (blks S.boxes S.rows) (fun ib => K ((S.addB ib (.it b cl [] cl)).put d (.lit (.pointer (some ⟨ib, 0, none⟩))))) .mk := by
  simp only [Todo_eq, rangeD]
  unfold onM Fresh
  generalize getM S.boxes b = o
  cases o with
  | none => rfl
  | some y => obtain ⟨a, b, c⟩ := y; rfl
/-- The next round over a map: it may be over; or any entry that is left. -/
def NextF (es : List Ent) (seen : List Nat) (A : Prop) (B : Ent → Prop) (_ : Fix A) (_ : Fix B) : Prop := (leftE es seen = [] → A) ∧ ∀ e, e ∈ leftE es seen → es.find? (fun x => x.1 == e.1) = some e → B e
@[congr] theorem nextK_congr {x x' : V} {K : St → Prop} (h : Todo x = x') : nextK S d (Todo x) K = nextK S d x' K := by rw [← h]
theorem nextK_it (ib : Nat) (K : St → Prop) : nextK S d (.lit (.pointer (some ⟨ib, 0, none⟩))) K = onI (Todo (getI S.boxes ib)) fun mb since seen last => onM (Todo (getM S.boxes mb)) fun _ es cl => And2 (Todo (since = cl ∧ last = cl))
    (NextF es seen (K (S.put d (.tup [.lit (.bool false)]))) (fun e => K ((S.setBoxes (setX S.boxes ib (.it mb since (seen ++ [e.1]) cl))).put d (.tup [.lit (.bool true), valV e.2.1, e.2.2]))) .mk .mk) := by
  simp only [Todo_eq]
  simp only [nextK]
  unfold onI onM
  cases getI S.boxes ib with
  | none => rfl
  | some y =>
    obtain ⟨a, b, c, e⟩ := y
    simp only []
    cases getM S.boxes a with
    | none => rfl
    | some y => obtain ⟨p, q, r⟩ := y; rfl
@[congr] theorem entryK_congr {x x' : V} {K : V → Prop} (h : Todo x = x') : entryK S (Todo x) K = entryK S x' K := by rw [← h]
theorem entryK_it (ib : Nat) (K : V → Prop) : entryK S (.lit (.pointer (some ⟨ib, 0, none⟩))) K = onI (Todo (getI S.boxes ib)) fun mb _ seen last => onSome (Todo seen.getLast?) fun stamp => onM (Todo (getM S.boxes mb)) fun _ es cl =>
    onSome (Todo (es.find? fun x => x.1 == stamp)) fun e => And2 (Todo (cl = last)) (K (.tup [valV e.2.1, e.2.2])) := by
  simp only [Todo_eq]
  simp only [entryK]
  unfold onI onM onSome
  cases getI S.boxes ib with
  | none => rfl
  | some y =>
    obtain ⟨a, b, c, e⟩ := y
    simp only []
    cases c.getLast? with
    | none => rfl
    | some st =>
      simp only []
      cases getM S.boxes a with
      | none => rfl
      | some y =>
        obtain ⟨p, q, r⟩ := y
        simp only []
        cases List.find? (fun x => x.1 == st) q <;> rfl
end

theorem getM_same (b : Nat) (ks : List Sh × Bool) (es : List Ent) (cl : Nat) (r : List (Nat × B)) : getM ((b, .m ks es cl) :: r) b = some (ks, es, cl) := by simp [getM]
theorem getM_other (b b' : Nat) (x : B) (r : List (Nat × B)) (h : b' ≠ b) : getM ((b, x) :: r) b' = getM r b' := by cases x <;> simp [getM, h]
theorem getI_same (b a s l : Nat) (c : List Nat) (r : List (Nat × B)) : getI ((b, .it a s c l) :: r) b = some (a, s, c, l) := by simp [getI]
theorem getI_other (b b' : Nat) (x : B) (r : List (Nat × B)) (h : b' ≠ b) : getI ((b, x) :: r) b' = getI r b' := by cases x <;> simp [getI, h]
theorem setX_same (b : Nat) (x y : B) (r : List (Nat × B)) : setX ((b, x) :: r) b y = (b, y) :: r := by simp [setX]
theorem setX_other (b b' : Nat) (x y : B) (r : List (Nat × B)) (h : b' ≠ b) : setX ((b, x) :: r) b' y = (b, x) :: setX r b' y := by simp [setX, h]
theorem valV_agg (xs : List Value) : valV (.agg xs.toArray) = .agg (xs.map .lit) := by simp [valV]
theorem valV_str (s : ByteArray) : valV (.string s) = .lit (.string s) := eqq rfl
theorem valV_int (k : IntKind) (n : Int) : valV (.int k n) = .lit (.int k n) := eqq rfl
theorem keyV_lit (v : Value) : keyV (.lit v) = some v := eqq rfl
theorem keyV_agg (vs : List V) : keyV (.agg vs) = (vals vs).map fun l => .agg l.toArray := eqq rfl
theorem keyS_agg (ks : List Sh) (xs : List Value) : keyS (ks, true) (.agg xs.toArray) = fitL ks xs := by simp [keyS, Value.cells]
theorem keyS_str (s : ByteArray) : keyS ([.s], false) (.string s) = true := by simp [keyS, Value.cells, fitL, fit]
theorem keyS_int (k : IntKind) (n : Int) : keyS ([.i k], false) (.int k n) = true := by simp [keyS, Value.cells, fitL, fit]
theorem addB_σ (S : St) (b : Nat) (x : B) : (S.addB b x).σ = S.σ := eqq rfl
theorem addB_boxes (S : St) (b : Nat) (x : B) : (S.addB b x).boxes = (b, x) :: S.boxes := eqq rfl
theorem addB_rows (S : St) (b : Nat) (x : B) : (S.addB b x).rows = S.rows := eqq rfl
end Go.VL

/- The V logic, part 16: 'EX': what is left to do, as a list; its equations, for simp. -/
namespace Go.VL
open Go.RowKit

/-- How a region's operations are taken: in the text's order; drawn (mode 0); drawn, any order (modes 1 and 2). -/
inductive Dr where
  | f
  | t
  | g (hc : Option Bool)

inductive It where
  | code (c : Code)
  | blk (id : Nat)
  | sc
  | ops (dr : Dr) (ops : Array Oper) (l : List Oper)
  | stop (K : St → Prop)

def contQ (C : Ctx) : List It → (Exit → St → Prop) → Exit → St → Prop
  | [], Q => Q
  | .code c :: k, Q => athen (fun S => cwp C c S (contQ C k Q)) (contQ C k Q)
  | .blk id :: k, Q => ablock id (contQ C k Q)
  | .sc :: k, Q => anoGoto (contQ C k Q)
  | .ops .f ops l :: k, Q => athen (fun S => aOps C.P ops (contQ C k Q .normal) l S) (contQ C k Q)
  | .ops .t ops l :: k, Q => athen (fun S => dOps C.P ops (fun S' => aOps C.P ops (contQ C k Q .normal) (l.drop (preN l)) S') (l.take (preN l)) S) (contQ C k Q)
  | .ops (.g hc) ops l :: k, Q => athen (fun S => gSeq C.P hc ops (contQ C k Q .normal) l S) (contQ C k Q)
  | .stop K :: k, Q => athen K (contQ C k Q)

def EX (C : Ctx) (k : List It) (S : St) (Q : Exit → St → Prop) : Prop := contQ C k Q .normal S
/-- Leaving. -/
def XI (C : Ctx) (k : List It) (e : Exit) (S : St) (Q : Exit → St → Prop) : Prop := contQ C k Q e S

def STEP (C : Ctx) (dr : Dr) (ops : Array Oper) (o : Oper) (l : List Oper) (k : List It) (S : St) (Q : Exit → St → Prop) : Prop :=
  match dr with
  | .f => aOp C.P S o fun S' => EX C (.ops .f ops l :: k) S' Q
  | .t => detG C.P S o fun v => EX C (.ops .t ops l :: k) (S.put o.dst v) Q
  | .g hc => detG C.P S o fun v => EX C (.ops (.g hc) ops l :: k) (S.put o.dst v) Q


section
variable {C : Ctx} {k : List It} {S : St} {Q : Exit → St → Prop}

theorem EX_end : EX C [] S Q = Q .normal S := eqq rfl
theorem EX_seq (x y : Code) : EX C (.code (.seq x y) :: k) S Q = EX C (.code x :: .code y :: k) S Q := eqq rfl
theorem EX_skip : EX C (.code .skip :: k) S Q = EX C k S Q := eqq rfl
theorem EX_label (l : Nat) : EX C (.code (.label l) :: k) S Q = EX C k S Q := eqq rfl
theorem EX_block (id : Nat) (c : Code) : EX C (.code (.block id c) :: k) S Q = EX C (.code c :: .blk id :: k) S Q := eqq rfl
theorem EX_blk (id : Nat) : EX C (.blk id :: k) S Q = EX C k S Q := eqq rfl
theorem EX_scope (c : Code) : EX C (.code (.scope c) :: k) S Q = EX C (.code c :: .sc :: k) S Q := eqq rfl
theorem EX_sc : EX C (.sc :: k) S Q = EX C k S Q := eqq rfl
theorem EX_stop (K : St → Prop) : EX C (.stop K :: k) S Q = K S := eqq rfl
theorem EX_exit (i : Nat) : EX C (.code (.exit i) :: k) S Q = XI C k (.exit i) S Q := eqq rfl
theorem contQ_ret : ∀ (k : List It) (S : St), contQ C k Q .ret S = Q .ret S
  | [], _ => rfl
  | .code _ :: k, S => contQ_ret k S
  | .blk _ :: k, S => contQ_ret k S
  | .sc :: k, S => contQ_ret k S
  | .ops .f _ _ :: k, S => contQ_ret k S
  | .ops .t _ _ :: k, S => contQ_ret k S
  | .ops (.g _) _ _ :: k, S => contQ_ret k S
  | .stop _ :: k, S => contQ_ret k S
theorem EX_ret : EX C (.code .ret :: k) S Q = Q .ret S := contQ_ret k S
theorem EX_cond (c : Operand) (x y : Code) : EX C (.code (.cond c x y) :: k) S Q = onCond (ev S.σ c) (EX C (.code x :: k) S Q) (EX C (.code y :: k) S Q) .mk .mk := by
  simp only [EX, contQ, athen, cwp, onCond]
  rfl
theorem EX_region (id : Nat) (l : List Oper) : EX C (.code (.region id l.toArray false) :: k) S Q = EX C (.ops .f l.toArray l :: k) S Q := eqq rfl
def onMode (m : Nat) (A B B' X D : Prop) (_ : Fix A) (_ : Fix B) (_ : Fix B') (_ : Fix X) (_ : Fix D) : Prop := match m with | 0 => A | 1 => B | 2 => B' | 4 => X | _ => D
theorem onMode_0 (A B B' X D : Prop) (a : Fix A) (b : Fix B) (b' : Fix B') (x : Fix X) (d : Fix D) : onMode 0 A B B' X D a b b' x d = A := eqq rfl
theorem onMode_1 (A B B' X D : Prop) (a : Fix A) (b : Fix B) (b' : Fix B') (x : Fix X) (d : Fix D) : onMode 1 A B B' X D a b b' x d = B := eqq rfl
theorem onMode_2 (A B B' X D : Prop) (a : Fix A) (b : Fix B) (b' : Fix B') (x : Fix X) (d : Fix D) : onMode 2 A B B' X D a b b' x d = B' := eqq rfl
theorem onMode_3 (A B B' X D : Prop) (a : Fix A) (b : Fix B) (b' : Fix B') (x : Fix X) (d : Fix D) : onMode 3 A B B' X D a b b' x d = D := eqq rfl
theorem onMode_4 (A B B' X D : Prop) (a : Fix A) (b : Fix B) (b' : Fix B') (x : Fix X) (d : Fix D) : onMode 4 A B B' X D a b b' x d = X := eqq rfl
theorem modeOf_nil (j : Nat) : modeOf [] j = 0 := eqq rfl
theorem modeOf_cons (i m j : Nat) (r : List (Nat × Nat)) : modeOf ((i, m) :: r) j = if i = j then m else modeOf r j := eqq rfl
theorem EX_draw (id : Nat) (l : List Oper) : EX C (.code (.region id l.toArray true) :: k) S Q = onMode (modeOf C.M id) (EX C (.ops .t l.toArray l :: k) S Q) (EX C (.ops (.g none) l.toArray l :: k) S Q) (EX C (.ops (.g (some false)) l.toArray l :: k) S Q) (EX C (.ops (.g (some true)) l.toArray l :: k) S Q) (AWP C (.region id l.toArray true) S (contQ C k Q)) .mk .mk .mk .mk .mk := by
  simp only [EX, contQ, athen, cwp, onMode]
  match modeOf C.M id with
  | 0 | 1 | 2 | 3 | 4 => rfl
  | n + 5 => rfl
theorem EX_loopleaf (c : Code) : EX C (.code (.loop c) :: k) S Q = AWP C (.loop c) S (contQ C k Q) := eqq rfl

theorem XI_end (e : Exit) : XI C [] e S Q = Q e S := eqq rfl
theorem XI_code (c : Code) (i : Nat) : XI C (.code c :: k) (.exit i) S Q = XI C k (.exit i) S Q := eqq rfl
theorem XI_ops (dr : Dr) (ops : Array Oper) (l : List Oper) (i : Nat) : XI C (.ops dr ops l :: k) (.exit i) S Q = XI C k (.exit i) S Q := eqq (by cases dr <;> rfl)
theorem XI_sc (i : Nat) : XI C (.sc :: k) (.exit i) S Q = XI C k (.exit i) S Q := eqq rfl
theorem XI_stop (K : St → Prop) (i : Nat) : XI C (.stop K :: k) (.exit i) S Q = XI C k (.exit i) S Q := eqq rfl
theorem XI_same (i : Nat) : XI C (.blk i :: k) (.exit i) S Q = EX C k S Q := by simp [XI, contQ, ablock, EX]
theorem XI_other (i j : Nat) (h : i ≠ j) : XI C (.blk j :: k) (.exit i) S Q = XI C k (.exit i) S Q := by simp [XI, contQ, ablock, h]

/-! ### Operations -/

def guardV (ops : Array Oper) (σ : Nat → V) (g : Nat) : V := match (ops[g]?).bind (·.dst) with | some d => σ d | none => .any

variable {ops : Array Oper} {l : List Oper} {d : Option Nat} {op : Op} {ty : TypeId} {pos : String} {af : Array Edge}

theorem EX_ops_nil (dr : Dr) : EX C (.ops dr ops [] :: k) S Q = EX C k S Q := eqq (by cases dr <;> rfl)

theorem EX_plain : EX C (.ops .f ops (⟨d, op, ty, pos, af, none⟩ :: l) :: k) S Q = STEP C .f ops ⟨d, op, ty, pos, af, none⟩ l k S Q := eqq rfl

theorem wantA_guard (g : Nat) (w : Bool) (A B : Prop) : (match wantA ops S.σ ⟨d, op, ty, pos, af, some (g, w)⟩ with | some true => A | some false => B | none => False) = onGuard (guardV ops S.σ g) w A B .mk .mk := by
  unfold wantA onGuard guardV
  simp only []
  cases (ops[g]?).bind (·.dst) with
  | none => rfl
  | some t =>
    simp only []
    cases S.σ t with
    | lit x => simp only []; cases isB x w <;> rfl
    | _ => rfl

theorem EX_guard (g : Nat) (w : Bool) : EX C (.ops .f ops (⟨d, op, ty, pos, af, some (g, w)⟩ :: l) :: k) S Q =
    onGuard (guardV ops S.σ g) w (STEP C .f ops ⟨d, op, ty, pos, af, some (g, w)⟩ l k S Q) (EX C (.ops .f ops l :: k) (S.put d skipV) Q) .mk .mk := by
  rw [← wantA_guard (d := d) (op := op) (ty := ty) (pos := pos) (af := af)]
  rfl

theorem preN_soft {o : Oper} (h : softB o = true) : preN (o :: l) = preN l + 1 := by simp [preN, h]
theorem preN_hard {o : Oper} (h : softB o = false) : preN (o :: l) = 0 := by simp [preN, h]

theorem EX_soft {o : Oper} (h : softB o = true) : EX C (.ops .t ops (o :: l) :: k) S Q =
    (match wantA ops S.σ o with | some true => STEP C .t ops o l k S Q | some false => EX C (.ops .t ops l :: k) (S.put o.dst skipV) Q | none => False) := by
  simp only [EX, contQ, athen, preN_soft h, List.drop_succ_cons, List.take_succ_cons, dOps]
  rfl

theorem EX_hard {o : Oper} (h : softB o = false) : EX C (.ops .t ops (o :: l) :: k) S Q = EX C (.ops .f ops (o :: l) :: k) S Q := by
  simp only [EX, contQ, athen, preN_hard h, List.drop_zero, List.take_zero, dOps]

theorem EX_dplain (h : softB ⟨d, op, ty, pos, af, none⟩ = true) : EX C (.ops .t ops (⟨d, op, ty, pos, af, none⟩ :: l) :: k) S Q = STEP C .t ops ⟨d, op, ty, pos, af, none⟩ l k S Q := EX_soft h

theorem EX_dguard (g : Nat) (w : Bool) (h : softB ⟨d, op, ty, pos, af, some (g, w)⟩ = true) : EX C (.ops .t ops (⟨d, op, ty, pos, af, some (g, w)⟩ :: l) :: k) S Q =
    onGuard (guardV ops S.σ g) w (STEP C .t ops ⟨d, op, ty, pos, af, some (g, w)⟩ l k S Q) (EX C (.ops .t ops l :: k) (S.put d skipV) Q) .mk .mk := by
  rw [EX_soft h, ← wantA_guard (d := d) (op := op) (ty := ty) (pos := pos) (af := af)]

variable {gd : Option (Nat × Bool)} (dr : Dr)

theorem ST_move (x : Operand) : STEP C dr ops ⟨d, .move x, ty, pos, af, gd⟩ l k S Q = onVal (Todo (ev S.σ x)) fun v => EX C (.ops dr ops l :: k) (S.put d v) Q := eqq (by cases dr <;> rfl)
theorem ST_assign (x : Operand) : STEP C dr ops ⟨d, .assign x, ty, pos, af, gd⟩ l k S Q = onVal (Todo (ev S.σ x)) fun v => EX C (.ops dr ops l :: k) (S.put d v) Q := eqq (by cases dr <;> rfl)
theorem ST_pick (c x y : Operand) : STEP C dr ops ⟨d, .pick c x y, ty, pos, af, gd⟩ l k S Q = onCond (ev S.σ c) (EX C (.ops dr ops l :: k) (S.put d (ev S.σ x)) Q) (EX C (.ops dr ops l :: k) (S.put d (ev S.σ y)) Q) .mk .mk := by
  have : ∀ K : V → Prop, (match ev S.σ c with | .lit (.bool t) => K (if t = true then ev S.σ x else ev S.σ y) | _ => False) = onCond (ev S.σ c) (K (ev S.σ x)) (K (ev S.σ y)) .mk .mk := fun K => by
    unfold onCond
    cases ev S.σ c with
    | lit z => cases z with
      | bool b => cases b <;> rfl
      | _ => rfl
    | _ => rfl
  cases dr with
  | f => exact this fun v => EX C (.ops .f ops l :: k) (S.put d v) Q
  | t => exact this fun v => EX C (.ops .t ops l :: k) (S.put d v) Q
  | g hc => exact this fun v => EX C (.ops (.g hc) ops l :: k) (S.put d v) Q
theorem ST_load (t : TypeId) (x : Operand) : STEP C dr ops ⟨d, .load t x, ty, pos, af, gd⟩ l k S Q = atP S (Todo (ev S.σ x)) fun cs => loadK C.P t cs fun v => EX C (.ops dr ops l :: k) (S.put d v) Q := eqq (by cases dr <;> rfl)
theorem ST_fieldAddr (s : TypeId) (x : Operand) (f : Nat) : STEP C dr ops ⟨d, .fieldAddr s x f, ty, pos, af, gd⟩ l k S Q = fieldAddrK C.P s f (Todo (ev S.σ x)) fun v => EX C (.ops dr ops l :: k) (S.put d v) Q := eqq (by cases dr <;> rfl)
theorem ST_field (s : TypeId) (x : Operand) (f : Nat) : STEP C dr ops ⟨d, .field s x f, ty, pos, af, gd⟩ l k S Q = fieldK C.P s f (Todo (ev S.σ x)) fun v => EX C (.ops dr ops l :: k) (S.put d v) Q := eqq (by cases dr <;> rfl)
theorem ST_indexAddr (t : TypeId) (x i : Operand) : STEP C dr ops ⟨d, .indexAddr t x i, ty, pos, af, gd⟩ l k S Q = idxAddrK C.P t (Todo (ev S.σ x)) (Todo (ev S.σ i)) fun v => EX C (.ops dr ops l :: k) (S.put d v) Q := eqq (by cases dr <;> rfl)
theorem ST_index (t : TypeId) (x i : Operand) : STEP C dr ops ⟨d, .index t x i, ty, pos, af, gd⟩ l k S Q = idxK C.P t (Todo (ev S.σ x)) (Todo (ev S.σ i)) fun v => EX C (.ops dr ops l :: k) (S.put d v) Q := eqq (by cases dr <;> rfl)
theorem ST_binOp (b : BinOp) (t t' : TypeId) (x y : Operand) : STEP C dr ops ⟨d, .binOp b t x y t', ty, pos, af, gd⟩ l k S Q = binK C.P b t (Todo (ev S.σ x)) (Todo (ev S.σ y)) fun v => EX C (.ops dr ops l :: k) (S.put d v) Q := eqq (by cases dr <;> rfl)
theorem ST_unOp (b : UnOp) (t : TypeId) (x : Operand) : STEP C dr ops ⟨d, .unOp b t x, ty, pos, af, gd⟩ l k S Q = unK b (Todo (ev S.σ x)) fun v => EX C (.ops dr ops l :: k) (S.put d v) Q := eqq (by cases dr <;> rfl)
theorem ST_convert (s t : TypeId) (x : Operand) : STEP C .f ops ⟨d, .convert s t x, ty, pos, af, gd⟩ l k S Q = convB C.P S s t (Todo (ev S.σ x)) fun v => EX C (.ops .f ops l :: k) (S.put d v) Q := eqq rfl
theorem ST_dconvert (s t : TypeId) (x : Operand) : STEP C .t ops ⟨d, .convert s t x, ty, pos, af, gd⟩ l k S Q = convK C.P s t (Todo (ev S.σ x)) fun v => EX C (.ops .t ops l :: k) (S.put d v) Q := eqq rfl
theorem ST_gconvert (hc : Option Bool) (s t : TypeId) (x : Operand) : STEP C (.g hc) ops ⟨d, .convert s t x, ty, pos, af, gd⟩ l k S Q = convK C.P s t (Todo (ev S.σ x)) fun v => EX C (.ops (.g hc) ops l :: k) (S.put d v) Q := eqq rfl
theorem ST_extract (x : Operand) (i : Nat) : STEP C dr ops ⟨d, .extract x i, ty, pos, af, gd⟩ l k S Q = onTup (Todo (ev S.σ x)) fun vs => onSome (Todo (vs[i]?)) fun v => EX C (.ops dr ops l :: k) (S.put d v) Q := by
  have : ∀ K : V → Prop, (match ev S.σ x with | .tup vs => (match vs[i]? with | some v => K v | none => False) | _ => False) = onTup (ev S.σ x) fun vs => onSome (vs[i]?) K := fun K => by
    unfold onTup onSome
    cases ev S.σ x with
    | tup vs => simp only []; cases vs[i]? <;> rfl
    | _ => rfl
  cases dr with
  | f => exact this fun v => EX C (.ops .f ops l :: k) (S.put d v) Q
  | t => exact this fun v => EX C (.ops .t ops l :: k) (S.put d v) Q
  | g hc => exact this fun v => EX C (.ops (.g hc) ops l :: k) (S.put d v) Q
theorem ST_slice (t : TypeId) (x : Operand) (lo hi mx : Option Operand) : STEP C dr ops ⟨d, .slice t x lo hi mx, ty, pos, af, gd⟩ l k S Q =
    sliceK C.P t (Todo (ev S.σ x)) (Todo (lo.map (ev S.σ))) (Todo (hi.map (ev S.σ))) (Todo (mx.map (ev S.σ))) fun v => EX C (.ops dr ops l :: k) (S.put d v) Q := eqq (by cases dr <;> rfl)
theorem ST_build (t : TypeId) (ps : List (Nat × Operand)) : STEP C dr ops ⟨d, .build t ps.toArray, ty, pos, af, gd⟩ l k S Q =
    And2 (Todo ((placeOf C.P t 0).isSome = true)) (buildK C.P t (Todo (ps.map fun p => (p.1, ev S.σ p.2))) fun v => EX C (.ops dr ops l :: k) (S.put d v) Q) := eqq (by cases dr <;> rfl)
theorem ST_nil (x : Operand) : STEP C dr ops ⟨d, .nilCheck x, ty, pos, af, gd⟩ l k S Q = nilK (Todo (ev S.σ x)) fun v => EX C (.ops dr ops l :: k) (S.put d v) Q := eqq (by cases dr <;> rfl)
theorem ST_len (x : Operand) (t : TypeId) : STEP C dr ops ⟨d, .call ⟨.builtin .len, #[x], #[t]⟩, ty, pos, af, gd⟩ l k S Q = lenK C.P t (Todo (ev S.σ x)) fun v => EX C (.ops dr ops l :: k) (S.put d v) Q := eqq (by cases dr <;> rfl)
def maxK (mx : Bool) (x y : V) (k : V → Prop) : Prop := onInt x fun kk a => onInt y fun _ b => k (.lit (.int kk (if mx then (if b > a then b else a) else (if b < a then b else a))))
@[congr] theorem maxK_congr {mx : Bool} {x x' y y' : V} {k : V → Prop} (h : Todo x = x') (h' : Todo y = y') : maxK mx (Todo x) (Todo y) k = maxK mx x' y' k := by rw [← h, ← h']
theorem maxK_max (kk k2 : IntKind) (a b : Int) (k : V → Prop) : maxK true (.lit (.int kk a)) (.lit (.int k2 b)) k = k (.lit (.int kk (if b > a then b else a))) := eqq rfl
theorem maxK_min (kk k2 : IntKind) (a b : Int) (k : V → Prop) : maxK false (.lit (.int kk a)) (.lit (.int k2 b)) k = k (.lit (.int kk (if b < a then b else a))) := eqq rfl
theorem ST_max (x y : Operand) (ts : Array TypeId) : STEP C dr ops ⟨d, .call ⟨.builtin .max, #[x, y], ts⟩, ty, pos, af, gd⟩ l k S Q = maxK true (Todo (ev S.σ x)) (Todo (ev S.σ y)) fun v => EX C (.ops dr ops l :: k) (S.put d v) Q := by
  have : ∀ K : V → Prop, (match [ev S.σ x, ev S.σ y] with | [.lit (.int kk x), .lit (.int _ y)] => K (.lit (.int kk (if y > x then y else x))) | _ => False) = maxK true (ev S.σ x) (ev S.σ y) K := fun K => by
    unfold maxK onInt
    cases ev S.σ x with
    | lit a => cases a <;> (first | rfl | (cases ev S.σ y with | lit b => cases b <;> rfl | _ => rfl))
    | _ => rfl
  cases dr with
  | f => exact this fun v => EX C (.ops .f ops l :: k) (S.put d v) Q
  | t => exact this fun v => EX C (.ops .t ops l :: k) (S.put d v) Q
  | g hc => exact this fun v => EX C (.ops (.g hc) ops l :: k) (S.put d v) Q
theorem ST_min (x y : Operand) (ts : Array TypeId) : STEP C dr ops ⟨d, .call ⟨.builtin .min, #[x, y], ts⟩, ty, pos, af, gd⟩ l k S Q = maxK false (Todo (ev S.σ x)) (Todo (ev S.σ y)) fun v => EX C (.ops dr ops l :: k) (S.put d v) Q := by
  have : ∀ K : V → Prop, (match [ev S.σ x, ev S.σ y] with | [.lit (.int kk x), .lit (.int _ y)] => K (.lit (.int kk (if y < x then y else x))) | _ => False) = maxK false (ev S.σ x) (ev S.σ y) K := fun K => by
    unfold maxK onInt
    cases ev S.σ x with
    | lit a => cases a <;> (first | rfl | (cases ev S.σ y with | lit b => cases b <;> rfl | _ => rfl))
    | _ => rfl
  cases dr with
  | f => exact this fun v => EX C (.ops .f ops l :: k) (S.put d v) Q
  | t => exact this fun v => EX C (.ops .t ops l :: k) (S.put d v) Q
  | g hc => exact this fun v => EX C (.ops (.g hc) ops l :: k) (S.put d v) Q
theorem ST_call (f : Operand) (as : List Operand) (ts : Array TypeId) : STEP C .f ops ⟨d, .call ⟨.value f, as.toArray, ts⟩, ty, pos, af, gd⟩ l k S Q = callE C.P S d (Todo (ev S.σ f)) (Todo (as.map (ev S.σ))) fun S' => EX C (.ops .f ops l :: k) S' Q := eqq rfl
theorem ST_dcall (f : Operand) (as : List Operand) (ts : Array TypeId) : STEP C .t ops ⟨d, .call ⟨.value f, as.toArray, ts⟩, ty, pos, af, gd⟩ l k S Q = callK C.P (Todo (ev S.σ f)) (Todo (as.map (ev S.σ))) fun v => EX C (.ops .t ops l :: k) (S.put d v) Q := eqq rfl
def funcK (fn : Fn) (a b : List V) (k : V → Prop) : Prop := ∃ l m, vals a = some l ∧ vals b = some m ∧ k (.lit (.func fn l.toArray m.toArray))
@[congr] theorem funcK_congr {fn : Fn} {a a' b b' : List V} {k : V → Prop} (h : Todo a = a') (h' : Todo b = b') : funcK fn (Todo a) (Todo b) k = funcK fn a' b' k := by rw [← h, ← h']
theorem funcK_eq (fn : Fn) (a b : List V) (k : V → Prop) : funcK fn a b k = onSome (Todo (vals a)) fun l => onSome (Todo (vals b)) fun m => k (.lit (.func fn l.toArray m.toArray)) := by
  simp only [funcK, onSome, Todo_eq]
  cases h : vals a <;> cases h' : vals b <;> simp
theorem ST_makeFunc (fn : Fn) (a b : List Operand) : STEP C dr ops ⟨d, .makeFunc fn a.toArray b.toArray, ty, pos, af, gd⟩ l k S Q = funcK fn (Todo (a.map (ev S.σ))) (Todo (b.map (ev S.σ))) fun v => EX C (.ops dr ops l :: k) (S.put d v) Q := eqq (by cases dr <;> rfl)

theorem ST_alloc (t : TypeId) : STEP C .f ops ⟨d, .alloc t, ty, pos, af, gd⟩ l k S Q = allocK C.P S d t fun S' => EX C (.ops .f ops l :: k) S' Q := eqq rfl
theorem ST_box (t : TypeId) (x : Operand) : STEP C .f ops ⟨d, .box t x, ty, pos, af, gd⟩ l k S Q = boxK S d (Todo (ev S.σ x)) fun S' => EX C (.ops .f ops l :: k) S' Q := eqq rfl
theorem ST_store (t : TypeId) (x y : Operand) : STEP C .f ops ⟨d, .store t x y, ty, pos, af, gd⟩ l k S Q = storeK C.P S d t (Todo (ev S.σ x)) (Todo (ev S.σ y)) fun S' => EX C (.ops .f ops l :: k) S' Q := eqq rfl
theorem ST_buildSlice (t : TypeId) (n : Nat) (ps : List (Nat × Operand)) : STEP C .f ops ⟨d, .buildSlice t n ps.toArray, ty, pos, af, gd⟩ l k S Q = buildSliceK C.P S d t n (ps.map fun p => (p.1, ev S.σ p.2)) fun S' => EX C (.ops .f ops l :: k) S' Q := eqq rfl
theorem ST_dbuildSlice (t : TypeId) (n : Nat) (ps : List (Nat × Operand)) : STEP C .t ops ⟨d, .buildSlice t n ps.toArray, ty, pos, af, gd⟩ l k S Q = buildSliceD C.P t n (Todo (ps.map fun p => (p.1, ev S.σ p.2))) fun v => EX C (.ops .t ops l :: k) (S.put d v) Q := eqq rfl
theorem ST_append (x y : Operand) (t t' : TypeId) : STEP C .f ops ⟨d, .call ⟨.builtin .append, #[x, y], #[t, t']⟩, ty, pos, af, gd⟩ l k S Q = appendAny C.P S d t t' (Todo (ev S.σ x)) (Todo (ev S.σ y)) fun S' => EX C (.ops .f ops l :: k) S' Q := eqq rfl
theorem ST_copy (x y : Operand) (t t' : TypeId) : STEP C .f ops ⟨d, .call ⟨.builtin .copy, #[x, y], #[t, t']⟩, ty, pos, af, gd⟩ l k S Q = copyK C.P S d t t' (ev S.σ x) (ev S.σ y) fun S' => EX C (.ops .f ops l :: k) S' Q := eqq rfl
theorem ST_makeSlice (t : TypeId) (x y : Operand) : STEP C .f ops ⟨d, .makeSlice t x y, ty, pos, af, gd⟩ l k S Q = makeSliceK C.P S d t (Todo (ev S.σ x)) (Todo (ev S.σ y)) fun S' => EX C (.ops .f ops l :: k) S' Q := eqq rfl
theorem ST_cap (x : Operand) (t : TypeId) : STEP C dr ops ⟨d, .call ⟨.builtin .cap, #[x], #[t]⟩, ty, pos, af, gd⟩ l k S Q = capK C.P t (Todo (ev S.σ x)) fun v => EX C (.ops dr ops l :: k) (S.put d v) Q := eqq (by cases dr <;> rfl)
theorem EX_h_makeSlice (t : TypeId) (x y : Operand) : EX C (.ops .t ops (⟨d, .makeSlice t x y, ty, pos, af, gd⟩ :: l) :: k) S Q = EX C (.ops .f ops (⟨d, .makeSlice t x y, ty, pos, af, gd⟩ :: l) :: k) S Q := EX_hard rfl
theorem EX_h_copy (as : Array Operand) (ts : Array TypeId) : EX C (.ops .t ops (⟨d, .call ⟨.builtin .copy, as, ts⟩, ty, pos, af, gd⟩ :: l) :: k) S Q = EX C (.ops .f ops (⟨d, .call ⟨.builtin .copy, as, ts⟩, ty, pos, af, gd⟩ :: l) :: k) S Q := EX_hard rfl
theorem EX_h_alloc (t : TypeId) : EX C (.ops .t ops (⟨d, .alloc t, ty, pos, af, gd⟩ :: l) :: k) S Q = EX C (.ops .f ops (⟨d, .alloc t, ty, pos, af, gd⟩ :: l) :: k) S Q := EX_hard rfl
theorem EX_h_box (t : TypeId) (x : Operand) : EX C (.ops .t ops (⟨d, .box t x, ty, pos, af, gd⟩ :: l) :: k) S Q = EX C (.ops .f ops (⟨d, .box t x, ty, pos, af, gd⟩ :: l) :: k) S Q := EX_hard rfl
theorem EX_h_store (t : TypeId) (x y : Operand) : EX C (.ops .t ops (⟨d, .store t x y, ty, pos, af, gd⟩ :: l) :: k) S Q = EX C (.ops .f ops (⟨d, .store t x y, ty, pos, af, gd⟩ :: l) :: k) S Q := EX_hard rfl
theorem EX_h_append (as : Array Operand) (ts : Array TypeId) : EX C (.ops .t ops (⟨d, .call ⟨.builtin .append, as, ts⟩, ty, pos, af, gd⟩ :: l) :: k) S Q = EX C (.ops .f ops (⟨d, .call ⟨.builtin .append, as, ts⟩, ty, pos, af, gd⟩ :: l) :: k) S Q := EX_hard rfl


theorem ST_makeMap (t : TypeId) (r : Option Operand) : STEP C .f ops ⟨d, .makeMap t r, ty, pos, af, gd⟩ l k S Q = makeMapK C.P S d t (r.map (ev S.σ)) fun S' => EX C (.ops .f ops l :: k) S' Q := eqq rfl
theorem ST_lookup (t : TypeId) (x y : Operand) (ok : Bool) : STEP C .f ops ⟨d, .lookup t x y ok, ty, pos, af, gd⟩ l k S Q = lookK C.P S t (ev S.σ x) (ev S.σ y) ok fun v => EX C (.ops .f ops l :: k) (S.put d v) Q := eqq rfl
theorem ST_mapUpdate (t : TypeId) (x y z : Operand) : STEP C .f ops ⟨d, .mapUpdate t x y z, ty, pos, af, gd⟩ l k S Q = updK C.P S d t (ev S.σ x) (ev S.σ y) (ev S.σ z) fun S' => EX C (.ops .f ops l :: k) S' Q := eqq rfl
theorem ST_range (t : TypeId) (x : Operand) : STEP C .f ops ⟨d, .range t x, ty, pos, af, gd⟩ l k S Q = rangeK C.P S d t (ev S.σ x) fun S' => EX C (.ops .f ops l :: k) S' Q := eqq rfl
theorem ST_next (x : Operand) : STEP C .f ops ⟨d, .next x false, ty, pos, af, gd⟩ l k S Q = nextK S d (Todo (ev S.σ x)) fun S' => EX C (.ops .f ops l :: k) S' Q := eqq rfl
theorem ST_entry (x : Operand) : STEP C .f ops ⟨d, .entry x, ty, pos, af, gd⟩ l k S Q = entryK S (Todo (ev S.σ x)) fun v => EX C (.ops .f ops l :: k) (S.put d v) Q := eqq rfl
theorem EX_h_makeMap (t : TypeId) (r : Option Operand) : EX C (.ops .t ops (⟨d, .makeMap t r, ty, pos, af, gd⟩ :: l) :: k) S Q = EX C (.ops .f ops (⟨d, .makeMap t r, ty, pos, af, gd⟩ :: l) :: k) S Q := EX_hard rfl
theorem EX_h_lookup (t : TypeId) (x y : Operand) (ok : Bool) : EX C (.ops .t ops (⟨d, .lookup t x y ok, ty, pos, af, gd⟩ :: l) :: k) S Q = EX C (.ops .f ops (⟨d, .lookup t x y ok, ty, pos, af, gd⟩ :: l) :: k) S Q := EX_hard rfl
theorem EX_h_mapUpdate (t : TypeId) (x y z : Operand) : EX C (.ops .t ops (⟨d, .mapUpdate t x y z, ty, pos, af, gd⟩ :: l) :: k) S Q = EX C (.ops .f ops (⟨d, .mapUpdate t x y z, ty, pos, af, gd⟩ :: l) :: k) S Q := EX_hard rfl

/-! Drawn, any order. -/

/-- An operation that is not hard by its mode. -/
def ncall (hc : Option Bool) (op : Op) : Bool := match hc with
  | none => true
  | some b => match op with
    | .call c => (match c.callee with | .value _ => false | _ => true)
    | .buildSlice _ _ _ => !b
    | _ => true
theorem softD_of {hc : Option Bool} (h : softB ⟨d, op, ty, pos, af, gd⟩ = true) (hn : ncall hc op = true) : softD hc ⟨d, op, ty, pos, af, gd⟩ = true := by
  unfold softB at h
  unfold softD
  unfold ncall at hn
  cases op <;> simp only [] at h hn ⊢ <;> try (exact h)
  case call c =>
    cases hcl : c.callee <;> simp only [hcl] at h hn ⊢
    case builtin b => cases b <;> first | exact h | rfl
    case value f => cases hc <;> first | rfl | cases hn
  case buildSlice t n ps =>
    cases hc with
    | none => rfl
    | some b => cases b <;> first | rfl | cases hn
theorem EX_gsoft {hc : Option Bool} (h : softB ⟨d, op, ty, pos, af, none⟩ = true) (hn : hc = none ∨ ncall hc op = true) : EX C (.ops (.g hc) ops (⟨d, op, ty, pos, af, none⟩ :: l) :: k) S Q = STEP C (.g hc) ops ⟨d, op, ty, pos, af, none⟩ l k S Q := by
  have hs := softD_of (gd := none) h (hn.elim (fun e => by rw [e]; rfl) id)
  simp only [EX, contQ, athen, gSeq, gStep, wantA, gCore, hs, if_true, STEP]
theorem EX_gsoftg {hc : Option Bool} (g : Nat) (w : Bool) (h : softB ⟨d, op, ty, pos, af, some (g, w)⟩ = true) (hn : hc = none ∨ ncall hc op = true) : EX C (.ops (.g hc) ops (⟨d, op, ty, pos, af, some (g, w)⟩ :: l) :: k) S Q =
    onGuard (guardV ops S.σ g) w (STEP C (.g hc) ops ⟨d, op, ty, pos, af, some (g, w)⟩ l k S Q) (EX C (.ops (.g hc) ops l :: k) (S.put d skipV) Q) .mk .mk := by
  have hs := softD_of (gd := some (g, w)) h (hn.elim (fun e => by rw [e]; rfl) id)
  rw [← wantA_guard (d := d) (op := op) (ty := ty) (pos := pos) (af := af)]
  simp only [EX, contQ, athen, gSeq, gStep, gCore, hs, if_true, STEP]
  rfl
theorem EX_g_alloc {hc : Option Bool} (t : TypeId) : EX C (.ops (.g hc) ops (⟨d, .alloc t, ty, pos, af, none⟩ :: l) :: k) S Q = allocK C.P S d t fun S' => EX C (.ops (.g hc) ops l :: k) S' Q := by
  simp only [EX, contQ, athen, gSeq, gStep, wantA, gCore, softD, gHard, if_false, Bool.false_eq_true]
theorem EX_g_box {hc : Option Bool} (t : TypeId) (x : Operand) : EX C (.ops (.g hc) ops (⟨d, .box t x, ty, pos, af, none⟩ :: l) :: k) S Q = boxK S d (Todo (ev S.σ x)) fun S' => EX C (.ops (.g hc) ops l :: k) S' Q := by
  simp only [EX, contQ, athen, gSeq, gStep, wantA, gCore, softD, gHard, if_false, Bool.false_eq_true]; rfl
theorem EX_g_store {hc : Option Bool} (t : TypeId) (x y : Operand) : EX C (.ops (.g hc) ops (⟨d, .store t x y, ty, pos, af, none⟩ :: l) :: k) S Q = storeK C.P S d t (Todo (ev S.σ x)) (Todo (ev S.σ y)) fun S' => EX C (.ops (.g hc) ops l :: k) S' Q := by
  simp only [EX, contQ, athen, gSeq, gStep, wantA, gCore, softD, gHard, if_false, Bool.false_eq_true]; rfl
theorem EX_g_copy {hc : Option Bool} (x y : Operand) (t t' : TypeId) : EX C (.ops (.g hc) ops (⟨d, .call ⟨.builtin .copy, #[x, y], #[t, t']⟩, ty, pos, af, none⟩ :: l) :: k) S Q = copyK C.P S d t t' (ev S.σ x) (ev S.σ y) fun S' => EX C (.ops (.g hc) ops l :: k) S' Q := by
  simp only [EX, contQ, athen, gSeq, gStep, wantA, gCore, softD, gHard, if_false, Bool.false_eq_true]
theorem EX_g_append {hc : Option Bool} (x y : Operand) (t t' : TypeId) : EX C (.ops (.g hc) ops (⟨d, .call ⟨.builtin .append, #[x, y], #[t, t']⟩, ty, pos, af, none⟩ :: l) :: k) S Q = And2 (Todo (t' = t)) (appendK C.P S d t (Todo (ev S.σ x)) (Todo (ev S.σ y)) fun S' => EX C (.ops (.g hc) ops l :: k) S' Q) := by
  simp only [EX, contQ, athen, gSeq, gStep, wantA, gCore, softD, gHard, if_false, Bool.false_eq_true]; rfl
@[congr] theorem callR_congr {P : Program} {S : St} {d : Option Nat} {f f' : V} {as as' : List V} {K : St → Prop} (h : Todo f = f') (h' : Todo as = as') : callR P S d (Todo f) (Todo as) K = callR P S d f' as' K := by rw [← h, ← h']
theorem EX_g_call (f : Operand) (as : List Operand) (ts : Array TypeId) : EX C (.ops (.g (some false)) ops (⟨d, .call ⟨.value f, as.toArray, ts⟩, ty, pos, af, none⟩ :: l) :: k) S Q = callR C.P S d (Todo (ev S.σ f)) (Todo (as.map (ev S.σ))) fun S' => EX C (.ops (.g (some false)) ops l :: k) S' Q := by
  simp only [EX, contQ, athen, gSeq, gStep, wantA, gCore, softD, gHard, if_false, Bool.false_eq_true, Option.isNone_some]; rfl
@[congr] theorem callX_congr {P : Program} {S : St} {d : Option Nat} {f f' : V} {as as' : List V} {K : St → Prop} (h : Todo f = f') (h' : Todo as = as') : callX P S d (Todo f) (Todo as) K = callX P S d f' as' K := by rw [← h, ← h']
theorem EX_x_call (f : Operand) (as : List Operand) (ts : Array TypeId) : EX C (.ops (.g (some true)) ops (⟨d, .call ⟨.value f, as.toArray, ts⟩, ty, pos, af, none⟩ :: l) :: k) S Q = callX C.P S d (Todo (ev S.σ f)) (Todo (as.map (ev S.σ))) fun S' => EX C (.ops (.g (some true)) ops l :: k) S' Q := by
  simp only [EX, contQ, athen, gSeq, gStep, wantA, gCore, softD, gHard, if_false, Bool.false_eq_true, Option.isNone_some]; rfl
theorem callX_func (P : Program) (S : St) (d : Option Nat) (g : FuncId) (first cap : Array Value) (as : List V) (K : St → Prop) : callX P S d (.lit (.func (.func g) first cap)) as K =
    And2 (Todo (callB P g = true)) (OkF P g (first.toList.map .lit ++ as ++ cap.toList.map .lit) S.boxes (fun v bs rs => K (((S.setBoxes bs).setRows (rs ++ S.rows)).put d v)) .mk) := eqq rfl
theorem EX_x_buildSlice (t : TypeId) (n : Nat) (ps : List (Nat × Operand)) : EX C (.ops (.g (some true)) ops (⟨d, .buildSlice t n ps.toArray, ty, pos, af, none⟩ :: l) :: k) S Q = buildSliceK C.P S d t n (ps.map fun p => (p.1, ev S.σ p.2)) fun S' => EX C (.ops (.g (some true)) ops l :: k) S' Q := by
  simp only [EX, contQ, athen, gSeq, gStep, wantA, gCore, softD, gHard, if_false, Bool.false_eq_true]
/-- A call that hands back rows alone. -/
def OkR (P : Program) (f : FuncId) (zs : List V) (Q : V → List Row → Prop) (_ : Fix Q) : Prop := Ok P f zs [] fun v bs rs => bs = [] ∧ Q v rs
theorem callR_func (P : Program) (S : St) (d : Option Nat) (g : FuncId) (first cap : Array Value) (as : List V) (K : St → Prop) : callR P S d (.lit (.func (.func g) first cap)) as K =
    And2 (Todo (callB P g = true)) (OkR P g (first.toList.map .lit ++ as ++ cap.toList.map .lit) (fun v rs => K ((S.setRows (rs ++ S.rows)).put d v)) .mk) := eqq rfl
theorem OkR_of {P : Program} {g : FuncId} {zs : List V} {Q : V → List Row → Prop} {p : Fix Q} (v : V) (h : OkP P g zs v) (hk : Q v []) : OkR P g zs Q p :=
  Ok.mono h fun v' bs rs ⟨e, e', e''⟩ => by subst e; subst e'; subst e''; exact ⟨rfl, hk⟩
theorem OkR_back {P : Program} {g : FuncId} {zs : List V} {Q : V → List Row → Prop} {p : Fix Q} {Q0 : V → List (Nat × B) → List Row → Prop} (h : Ok P g zs [] Q0) (hk : ∀ v bs rs, Q0 v bs rs → bs = [] ∧ Q v rs) : OkR P g zs Q p :=
  Ok.mono h hk
end

/-! ### Which operations are drawn -/

theorem soft_move {d : Option Nat} {ty : TypeId} {pos : String} {af : Array Edge} {gd : Option (Nat × Bool)} (x : Operand) : softB ⟨d, .move x, ty, pos, af, gd⟩ = true := eqq rfl
theorem soft_assign {d : Option Nat} {ty : TypeId} {pos : String} {af : Array Edge} {gd : Option (Nat × Bool)} (x : Operand) : softB ⟨d, .assign x, ty, pos, af, gd⟩ = true := eqq rfl
theorem soft_pick {d : Option Nat} {ty : TypeId} {pos : String} {af : Array Edge} {gd : Option (Nat × Bool)} (c x y : Operand) : softB ⟨d, .pick c x y, ty, pos, af, gd⟩ = true := eqq rfl
theorem soft_load {d : Option Nat} {ty : TypeId} {pos : String} {af : Array Edge} {gd : Option (Nat × Bool)} (t : TypeId) (x : Operand) : softB ⟨d, .load t x, ty, pos, af, gd⟩ = true := eqq rfl
theorem soft_fieldAddr {d : Option Nat} {ty : TypeId} {pos : String} {af : Array Edge} {gd : Option (Nat × Bool)} (t : TypeId) (x : Operand) (i : Nat) : softB ⟨d, .fieldAddr t x i, ty, pos, af, gd⟩ = true := eqq rfl
theorem soft_field {d : Option Nat} {ty : TypeId} {pos : String} {af : Array Edge} {gd : Option (Nat × Bool)} (t : TypeId) (x : Operand) (i : Nat) : softB ⟨d, .field t x i, ty, pos, af, gd⟩ = true := eqq rfl
theorem soft_indexAddr {d : Option Nat} {ty : TypeId} {pos : String} {af : Array Edge} {gd : Option (Nat × Bool)} (t : TypeId) (x y : Operand) : softB ⟨d, .indexAddr t x y, ty, pos, af, gd⟩ = true := eqq rfl
theorem soft_index {d : Option Nat} {ty : TypeId} {pos : String} {af : Array Edge} {gd : Option (Nat × Bool)} (t : TypeId) (x y : Operand) : softB ⟨d, .index t x y, ty, pos, af, gd⟩ = true := eqq rfl
theorem soft_binOp {d : Option Nat} {ty : TypeId} {pos : String} {af : Array Edge} {gd : Option (Nat × Bool)} (b : BinOp) (t t2 : TypeId) (x y : Operand) : softB ⟨d, .binOp b t x y t2, ty, pos, af, gd⟩ = true := eqq rfl
theorem soft_unOp {d : Option Nat} {ty : TypeId} {pos : String} {af : Array Edge} {gd : Option (Nat × Bool)} (b : UnOp) (t : TypeId) (x : Operand) : softB ⟨d, .unOp b t x, ty, pos, af, gd⟩ = true := eqq rfl
theorem soft_convert {d : Option Nat} {ty : TypeId} {pos : String} {af : Array Edge} {gd : Option (Nat × Bool)} (t t2 : TypeId) (x : Operand) : softB ⟨d, .convert t t2 x, ty, pos, af, gd⟩ = true := eqq rfl
theorem soft_extract {d : Option Nat} {ty : TypeId} {pos : String} {af : Array Edge} {gd : Option (Nat × Bool)} (x : Operand) (i : Nat) : softB ⟨d, .extract x i, ty, pos, af, gd⟩ = true := eqq rfl
theorem soft_slice {d : Option Nat} {ty : TypeId} {pos : String} {af : Array Edge} {gd : Option (Nat × Bool)} (t : TypeId) (x : Operand) (a b c : Option Operand) : softB ⟨d, .slice t x a b c, ty, pos, af, gd⟩ = true := eqq rfl
theorem soft_build {d : Option Nat} {ty : TypeId} {pos : String} {af : Array Edge} {gd : Option (Nat × Bool)} (t : TypeId) (ps : Array (Nat × Operand)) : softB ⟨d, .build t ps, ty, pos, af, gd⟩ = true := eqq rfl
theorem soft_nil {d : Option Nat} {ty : TypeId} {pos : String} {af : Array Edge} {gd : Option (Nat × Bool)} (x : Operand) : softB ⟨d, .nilCheck x, ty, pos, af, gd⟩ = true := eqq rfl
theorem soft_buildSlice {d : Option Nat} {ty : TypeId} {pos : String} {af : Array Edge} {gd : Option (Nat × Bool)} (t : TypeId) (n : Nat) (ps : Array (Nat × Operand)) : softB ⟨d, .buildSlice t n ps, ty, pos, af, gd⟩ = true := eqq rfl
theorem soft_makeFunc {d : Option Nat} {ty : TypeId} {pos : String} {af : Array Edge} {gd : Option (Nat × Bool)} (fn : Fn) (a b : Array Operand) : softB ⟨d, .makeFunc fn a b, ty, pos, af, gd⟩ = true := eqq rfl
theorem soft_callv {d : Option Nat} {ty : TypeId} {pos : String} {af : Array Edge} {gd : Option (Nat × Bool)} (f : Operand) (as : Array Operand) (ts : Array TypeId) : softB ⟨d, .call ⟨.value f, as, ts⟩, ty, pos, af, gd⟩ = true := eqq rfl
theorem soft_len {d : Option Nat} {ty : TypeId} {pos : String} {af : Array Edge} {gd : Option (Nat × Bool)} (as : Array Operand) (ts : Array TypeId) : softB ⟨d, .call ⟨.builtin .len, as, ts⟩, ty, pos, af, gd⟩ = true := eqq rfl
theorem soft_cap {d : Option Nat} {ty : TypeId} {pos : String} {af : Array Edge} {gd : Option (Nat × Bool)} (as : Array Operand) (ts : Array TypeId) : softB ⟨d, .call ⟨.builtin .cap, as, ts⟩, ty, pos, af, gd⟩ = true := eqq rfl
theorem soft_max {d : Option Nat} {ty : TypeId} {pos : String} {af : Array Edge} {gd : Option (Nat × Bool)} (as : Array Operand) (ts : Array TypeId) : softB ⟨d, .call ⟨.builtin .max, as, ts⟩, ty, pos, af, gd⟩ = true := eqq rfl
theorem soft_min {d : Option Nat} {ty : TypeId} {pos : String} {af : Array Edge} {gd : Option (Nat × Bool)} (as : Array Operand) (ts : Array TypeId) : softB ⟨d, .call ⟨.builtin .min, as, ts⟩, ty, pos, af, gd⟩ = true := eqq rfl

/-! ### Looking into a state -/

theorem put_eq (S : St) (d : Nat) (v : V) : (S.put (some d) v).σ d = v := by simp [St.put, upd]
theorem put_ne (S : St) (d i : Nat) (v : V) (h : d ≠ i) : (S.put (some d) v).σ i = S.σ i := by simp [St.put, upd, h]
theorem put_none (S : St) (v : V) : S.put none v = S := eqq rfl
theorem put_boxes (S : St) (d : Option Nat) (v : V) : (S.put d v).boxes = S.boxes := eqq rfl
theorem put_rows (S : St) (d : Option Nat) (v : V) : (S.put d v).rows = S.rows := eqq rfl
theorem addBox_σ (S : St) (b : Nat) (cs : List V) : (S.addBox b cs).σ = S.σ := eqq rfl
theorem addBox_boxes (S : St) (b : Nat) (cs : List V) : (S.addBox b cs).boxes = (b, .c cs) :: S.boxes := eqq rfl
theorem addBox_rows (S : St) (b : Nat) (cs : List V) : (S.addBox b cs).rows = S.rows := eqq rfl
theorem addRow_σ (S : St) (r : Row) : (S.addRow r).σ = S.σ := eqq rfl
theorem addRow_boxes (S : St) (r : Row) : (S.addRow r).boxes = S.boxes := eqq rfl
theorem addRow_rows (S : St) (r : Row) : (S.addRow r).rows = r :: S.rows := eqq rfl
theorem setBoxes_σ (S : St) (bs : List (Nat × B)) : (S.setBoxes bs).σ = S.σ := eqq rfl
theorem setBoxes_boxes (S : St) (bs : List (Nat × B)) : (S.setBoxes bs).boxes = bs := eqq rfl
theorem setBoxes_rows (S : St) (bs : List (Nat × B)) : (S.setBoxes bs).rows = S.rows := eqq rfl
theorem setRows_σ (S : St) (rs : List Row) : (S.setRows rs).σ = S.σ := eqq rfl
theorem setRows_boxes (S : St) (rs : List Row) : (S.setRows rs).boxes = S.boxes := eqq rfl
theorem setRows_rows (S : St) (rs : List Row) : (S.setRows rs).rows = rs := eqq rfl
theorem S0_σ (args : List V) (bs : List (Nat × B)) (i : Nat) : (S0 args bs).σ i = args.getD i .any := eqq rfl
theorem S0_boxes (args : List V) (bs : List (Nat × B)) : (S0 args bs).boxes = bs := eqq rfl
theorem S0_rows (args : List V) (bs : List (Nat × B)) : (S0 args bs).rows = [] := eqq rfl
theorem ev_tmp (σ : Nat → V) (t : Tmp) : ev σ (.tmp t) = σ t := eqq rfl
theorem ev_const (σ : Nat → V) (v : Value) : ev σ (.const v) = .lit v := eqq rfl
theorem ev_global (σ : Nat → V) (g : Nat) : ev σ (.global g) = .lit (.pointer (some ⟨g, 0, none⟩)) := eqq rfl
theorem ev_func (σ : Nat → V) (f : FuncId) : ev σ (.func f) = .lit (.func (.func f) #[] #[]) := eqq rfl
theorem guardV_eq (ops : List Oper) (σ : Nat → V) (g : Nat) : guardV ops.toArray σ g = match (ops[g]?).bind (·.dst) with | some d => σ d | none => .any := by simp [guardV]
theorem getB_same (b : Nat) (cs : List V) (r : List (Nat × B)) : getB ((b, .c cs) :: r) b = some cs := by simp [getB]
theorem getB_other (b b' : Nat) (x : B) (r : List (Nat × B)) (h : b' ≠ b) : getB ((b, x) :: r) b' = getB r b' := by cases x <;> simp [getB, h]
theorem setB_same (b : Nat) (x : B) (ds : List V) (r : List (Nat × B)) : setB ((b, x) :: r) b ds = (b, .c ds) :: r := by simp [setB]
theorem setB_other (b b' : Nat) (x : B) (ds : List V) (r : List (Nat × B)) (h : b' ≠ b) : setB ((b, x) :: r) b' ds = (b, x) :: setB r b' ds := by simp [setB, h]

/-! ### Rules -/

theorem EX_loop {C : Ctx} {c : Code} {k : List It} {S : St} {Q : Exit → St → Prop} (hm : C.P.follows .mixedOrders = true) (hk : okCode C.N C.M c = true) (J : Nat → St → Prop) (n : Nat) (h0 : J n S)
    (round : ∀ n S, J n S → EX C (.code c :: .stop (fun S' => ∃ m, m < n ∧ J m S') :: k) S Q) : AWP C (.loop c) S (contQ C k Q) :=
  AWP.loop J n h0 fun n S hJ => cwp_spec hm c S _ hk (round n S hJ)

theorem Ok.of_exM (M : List (Nat × Nat)) {P : Program} {f : FuncId} {fn : Func} {c : Code} {args : List V} {bs : List (Nat × B)} {Q : V → List (Nat × B) → List Row → Prop} (hm : P.follows .mixedOrders = true) (hf : P.funcs[f]? = some fn) (hb : fn.body = some c)
    (hn : args.length ≤ fn.ntmps) (hk : okCode fn.ntmps M c = true) (h : ∀ F w0 I0, EX ⟨P, fn.ntmps, F, w0, I0, M⟩ [.code c] (S0 args bs) (retQ P fn.results.toList Q)) : Ok P f args bs Q :=
  Ok.of_body M hm hf hb hn hk h
theorem Ok.of_ex {P : Program} {f : FuncId} {fn : Func} {c : Code} {args : List V} {bs : List (Nat × B)} {Q : V → List (Nat × B) → List Row → Prop} (hm : P.follows .mixedOrders = true) (hf : P.funcs[f]? = some fn) (hb : fn.body = some c)
    (hn : args.length ≤ fn.ntmps) (hk : okCode fn.ntmps [] c = true) (h : ∀ F w0 I0, EX ⟨P, fn.ntmps, F, w0, I0, []⟩ [.code c] (S0 args bs) (retQ P fn.results.toList Q)) : Ok P f args bs Q :=
  Ok.of_exM [] hm hf hb hn hk h

theorem resV_nil (P : Program) (S : St) (k : List V → Prop) : resV P S [] k = k [] := eqq rfl
theorem resV_tmp (P : Program) (S : St) (t : Tmp) (r : List ResultVar) (k : List V → Prop) : resV P S (.tmp t :: r) k = resV P S r fun l => k (S.σ t :: l) := eqq rfl
theorem resV_cell (P : Program) (S : St) (t : Tmp) (T : TypeId) (r : List ResultVar) (k : List V → Prop) : resV P S (.cell t T :: r) k = atP S (Todo (S.σ t)) fun cs => loadK P T cs fun v => resV P S r fun l => k (v :: l) := eqq rfl
theorem retQ_ret (P : Program) (rs : List ResultVar) (Q : V → List (Nat × B) → List Row → Prop) (S : St) : retQ P rs Q .ret S = retK P rs Q S := eqq rfl
theorem retQ_normal (P : Program) (rs : List ResultVar) (Q : V → List (Nat × B) → List Row → Prop) (S : St) : retQ P rs Q .normal S = retK P rs Q S := eqq rfl

end Go.VL

/- The V logic, part 17: what is left to do may be weakened; a cut. -/
namespace Go.VL
open Go.RowKit

section
variable {P : Program} {k k' : V → Prop} (hk : ∀ v, k v → k' v)

theorem onSome_mono {α : Type} {o : Option α} {k k' : α → Prop} (hk : ∀ v, k v → k' v) : onSome o k → onSome o k' := by
  unfold onSome; cases o <;> first | exact id | exact hk _
theorem onInt_mono {v : V} {k k' : IntKind → Int → Prop} (hk : ∀ a b, k a b → k' a b) : onInt v k → onInt v k' := by
  unfold onInt; intro h; split at h
  · exact hk _ _ h
  · exact h.elim
theorem onStr_mono {v : V} {k k' : ByteArray → Prop} (hk : ∀ a, k a → k' a) : onStr v k → onStr v k' := by
  unfold onStr; intro h; split at h
  · exact hk _ h
  · exact h.elim
theorem onAgg_mono {v : V} {k k' : List V → Prop} (hk : ∀ a, k a → k' a) : onAgg v k → onAgg v k' := by
  unfold onAgg; intro h; split at h
  · exact hk _ h
  · exact h.elim
theorem onTup_mono {v : V} {k k' : List V → Prop} (hk : ∀ a, k a → k' a) : onTup v k → onTup v k' := by
  unfold onTup; intro h; split at h
  · exact hk _ h
  · exact h.elim
include hk
theorem onHead_mono {cs : List V} : onHead cs k → onHead cs k' := by
  unfold onHead; intro h; split at h
  · exact hk _ h
  · exact h.elim
omit hk in
theorem onL_mono {v : V} {n : Nat} {K K' : List (List V) → Prop} (hK : ∀ a, K a → K' a) : onL v n K → onL v n K' := by
  unfold onL; intro h; split at h
  · exact ⟨h.1, hK _ h.2⟩
  · exact hK _ h
  · exact h.elim
omit hk in
theorem onS_mono {v : V} {n : Nat} {KL KL' : List (List V) → Prop} {KM KM' : Nat → Nat → Nat → Nat → Prop} (hL : ∀ a, KL a → KL' a) (hM : ∀ b o l c, KM b o l c → KM' b o l c) : onS v n KL KM → onS v n KL' KM' := by
  unfold onS; intro h; split at h
  · exact hM _ _ _ _ h
  · exact onL_mono hL h
omit hk in
theorem bnd_mono {x : Option V} {d : Nat} {K K' : Nat → Prop} (hK : ∀ a, K a → K' a) : bnd x d K → bnd x d K' := by
  unfold bnd; intro h; split at h
  · exact hK _ h
  · exact ⟨h.1, hK _ h.2⟩
  · exact h.elim
theorem shiftP_mono {v : V} {off : Nat} : shiftP v off k → shiftP v off k' := by
  unfold shiftP; intro h; split at h
  · exact hk _ h
  · exact hk _ h
  · exact h.elim
omit hk in
theorem atP_mono {S : St} {v : V} {K K' : List V → Prop} (hK : ∀ a, K a → K' a) : atP S v K → atP S v K' := by
  unfold atP; intro h; split at h
  · exact hK _ h
  · split at h
    · exact hK _ h
    · exact h.elim
  · exact h.elim
theorem nilK_mono {v : V} : nilK v k → nilK v k' := by
  unfold nilK; intro h; split at h
  · exact hk _ h
  · exact hk _ h
  · exact hk _ h
  · exact h.elim
omit hk in
theorem And2_mono {A B B' : Prop} (h : B → B') : And2 A B → And2 A B' := fun ⟨a, b⟩ => ⟨a, h b⟩
theorem loadD_mono {a : Bool} {n : Nat} {cs : List V} : loadD a n cs k → loadD a n cs k' := by
  cases a
  · exact onHead_mono hk
  · exact And2_mono (hk _)
theorem loadK_mono {t : TypeId} {cs : List V} : loadK P t cs k → loadK P t cs k' := by
  rw [loadK_eq, loadK_eq]; exact onSome_mono fun _ => onSome_mono fun _ => loadD_mono hk
theorem partD_mono {a : Bool} {n : Nat} {cs : List V} : partD a n cs k → partD a n cs k' := by
  cases a
  · exact onHead_mono hk
  · exact hk _
theorem partK_mono {t : TypeId} {cs : List V} {off : Nat} : partK P t cs off k → partK P t cs off k' := by
  rw [partK_eq, partK_eq]; exact onSome_mono fun _ => onSome_mono fun _ => partD_mono hk
omit hk in
theorem posK_mono {n : Nat} {A A' : Prop} (h : A → A') : posK n A → posK n A' := by
  cases n <;> first | exact id | exact h
theorem fieldAddrK_mono {s : TypeId} {f : Nat} {v : V} : fieldAddrK P s f v k → fieldAddrK P s f v k' := by
  rw [fieldAddrK_eq, fieldAddrK_eq]; exact onSome_mono fun _ => onSome_mono fun _ => posK_mono (shiftP_mono hk)
theorem fieldK_mono {s : TypeId} {f : Nat} {v : V} : fieldK P s f v k → fieldK P s f v k' := by
  rw [fieldK_eq, fieldK_eq]; exact onSome_mono fun _ => onAgg_mono fun _ => partK_mono hk
theorem idxAddrD_mono {d : TypeDesc} {v i : V} : idxAddrD P d v i k → idxAddrD P d v i k' := by
  unfold idxAddrD; intro h; split at h
  · exact onSome_mono (fun _ => onInt_mono fun _ _ => onS_mono (fun _ => And2_mono (And2_mono (hk _))) fun _ _ _ _ => And2_mono (And2_mono (hk _))) h
  · exact onSome_mono (fun _ => onInt_mono fun _ _ => And2_mono (And2_mono (shiftP_mono hk))) h
  · exact h.elim
theorem idxAddrK_mono {t : TypeId} {v i : V} : idxAddrK P t v i k → idxAddrK P t v i k' := by
  rw [idxAddrK_eq, idxAddrK_eq]; exact onSome_mono fun _ => idxAddrD_mono hk
theorem idxD_mono {d : TypeDesc} {v i : V} : idxD P d v i k → idxD P d v i k' := by
  unfold idxD; intro h; split at h
  · exact onStr_mono (fun _ => onInt_mono fun _ _ => And2_mono (And2_mono (hk _))) h
  · exact onAgg_mono (fun _ => onInt_mono fun _ _ => onSome_mono fun _ => And2_mono (And2_mono (partK_mono hk))) h
  · exact h.elim
theorem idxK_mono {t : TypeId} {v i : V} : idxK P t v i k → idxK P t v i k' := by
  rw [idxK_eq, idxK_eq]; exact onSome_mono fun _ => idxD_mono hk
theorem binK_mono {op : BinOp} {t : TypeId} {x y : V} : binK P op t x y k → binK P op t x y k' := by
  unfold binK; intro h; split at h
  · obtain ⟨e, v, h1, h2, h3⟩ := h; exact ⟨e, v, h1, h2, hk _ h3⟩
  · obtain ⟨h0, e, v, h1, h2, h3⟩ := h; exact ⟨h0, e, v, h1, h2, hk _ h3⟩
  · obtain ⟨v, h1, h2⟩ := h; exact ⟨v, h1, hk _ h2⟩
  · obtain ⟨l, m, b, h1, h2, h3, h4⟩ := h; exact ⟨l, m, b, h1, h2, h3, hk _ h4⟩
  · exact h.elim
theorem convD_mono {d : TypeDesc} {v : V} : convD d v k → convD d v k' := by
  unfold convD; intro h; split at h
  · exact onInt_mono (fun _ _ => hk _) h
  · exact onStr_mono (fun _ => hk _) h
  · exact h.elim
theorem convK_mono {s d : TypeId} {v : V} : convK P s d v k → convK P s d v k' := by
  rw [convK_eq, convK_eq]; exact onSome_mono fun _ => onSome_mono fun _ => convD_mono hk
theorem lenD_mono {d : TypeDesc} {v : V} : lenD P d v k → lenD P d v k' := by
  unfold lenD; intro h; split at h
  · exact onStr_mono (fun _ => hk _) h
  · exact onSome_mono (fun _ => onS_mono (fun _ => hk _) fun _ _ _ _ => hk _) h
  · exact h.elim
theorem lenK_mono {t : TypeId} {v : V} : lenK P t v k → lenK P t v k' := by
  rw [lenK_eq, lenK_eq]; exact onSome_mono fun _ => lenD_mono hk
theorem sliceD_mono {d : TypeDesc} {v : V} {lo hi mx : Option V} : sliceD P d v lo hi mx k → sliceD P d v lo hi mx k' := by
  unfold sliceD; intro h; split at h
  · exact onStr_mono (fun _ => And2_mono (bnd_mono fun _ => bnd_mono fun _ => And2_mono (And2_mono (hk _)))) h
  · exact onSome_mono (fun _ => onS_mono (fun _ => bnd_mono fun _ => bnd_mono fun _ => And2_mono (And2_mono (And2_mono (hk _)))) fun _ _ _ _ => bnd_mono fun _ => bnd_mono fun _ => bnd_mono fun _ => And2_mono (And2_mono (And2_mono (And2_mono (hk _))))) h
  · exact h.elim
theorem sliceK_mono {t : TypeId} {v : V} {lo hi mx : Option V} : sliceK P t v lo hi mx k → sliceK P t v lo hi mx k' := by
  rw [sliceK_eq, sliceK_eq]; exact onSome_mono fun _ => sliceD_mono hk
theorem capK_mono {t : TypeId} {v : V} : capK P t v k → capK P t v k' := by
  unfold capK; intro h; split at h
  · exact hk _ h
  · exact h.elim
theorem buildK_mono {t : TypeId} {ps : List (Nat × V)} : buildK P t ps k → buildK P t ps k' := by
  rw [buildK_eq, buildK_eq]; exact onSome_mono fun _ => onSome_mono fun _ => hk _
theorem callK_mono {f : V} {as : List V} : callK P f as k → callK P f as k' := by
  unfold callK; intro h; split at h
  · exact ⟨h.1, h.2.imp fun v h => ⟨h.1, hk _ h.2⟩⟩
  · exact h.elim
theorem buildSliceD_mono {t : TypeId} {n : Nat} {ps : List (Nat × V)} : buildSliceD P t n ps k → buildSliceD P t n ps k' := by
  rw [buildSliceD_eq, buildSliceD_eq]
  refine onSome_mono fun u => ?_
  cases u <;> first | exact id | exact onSome_mono fun _ => onSome_mono fun _ => And2_mono (onSome_mono fun _ => And2_mono (hk _))

theorem detF_mono {S : St} {o : Oper} : detF P S o k → detF P S o k' := by
  intro h
  unfold detF at h ⊢
  split at h <;> rename_i heq <;> try simp only [heq]
  · exact hk _ h
  · exact hk _ h
  · split at h
    · exact hk _ h
    · exact h.elim
  · exact atP_mono (fun _ => loadK_mono hk) h
  · exact fieldAddrK_mono hk h
  · exact fieldK_mono hk h
  · exact idxAddrK_mono hk h
  · exact idxK_mono hk h
  · exact binK_mono hk h
  · split at h
    · exact h.imp fun v h => ⟨h.1, hk _ h.2⟩
    · exact h.elim
  · exact convK_mono hk h
  · split at h
    · split at h
      · exact hk _ h
      · exact h.elim
    · exact h.elim
  · exact sliceK_mono hk h
  · exact ⟨h.1, buildK_mono hk h.2⟩
  · obtain ⟨l, m, h1, h2, h3⟩ := h; exact ⟨l, m, h1, h2, hk _ h3⟩
  · exact nilK_mono hk h
  · split at h <;> rename_i hc <;> try simp only [hc]
    · split at h
      · exact lenK_mono hk h
      · exact h.elim
    · split at h
      · exact capK_mono hk h
      · exact h.elim
    · split at h
      · exact hk _ h
      · exact h.elim
    · split at h
      · exact hk _ h
      · exact h.elim
    · exact callK_mono hk h
    · exact h.elim
  · exact h.elim
theorem detG_mono {S : St} {o : Oper} : detG P S o k → detG P S o k' := by
  intro h
  unfold detG at h ⊢
  split at h
  · exact buildSliceD_mono hk h
  · exact detF_mono hk h
end

section
variable {P : Program} {S : St} {d : Option Nat} {K K' : St → Prop} (hK : ∀ S, K S → K' S)
include hK
theorem allocK_mono {t : TypeId} : allocK P S d t K → allocK P S d t K' := by
  unfold allocK; intro h; split at h
  · exact ⟨h.1, fun b hb => hK _ (h.2 b hb)⟩
  · exact h.elim
theorem boxK_mono {v : V} : boxK S d v K → boxK S d v K' := by
  unfold boxK; intro h; split at h
  · exact ⟨h.1, fun b hb => hK _ (h.2 b hb)⟩
  · exact h.elim
theorem storeK_mono {t : TypeId} {p v : V} : storeK P S d t p v K → storeK P S d t p v K' := by
  rw [storeK_eq, storeK_eq]
  unfold onPtr
  intro h
  split at h
  · exact onSome_mono (fun _ => onSome_mono fun _ => onSome_mono fun _ => And2_mono (hK _)) h
  · exact h.elim
theorem buildSliceK_mono {t : TypeId} {n : Nat} {ps : List (Nat × V)} : buildSliceK P S d t n ps K → buildSliceK P S d t n ps K' := by
  rw [buildSliceK_eq, buildSliceK_eq]
  refine onSome_mono fun u => ?_
  cases u <;> first | exact id | exact onSome_mono fun _ => onSome_mono fun _ => And2_mono (onSome_mono fun _ => And2_mono fun h y => hK _ (h y))
omit hK in
theorem takeR_mono : ∀ {l : List Row} {y : Value} {L L' : Row → List Row → Prop}, (∀ r rs, L r rs → L' r rs) → takeR l y L → takeR l y L'
  | [], _, _, _, _, h => h
  | r :: _, _, _, _, hL, h => h.imp (fun h => ⟨h.1, hL _ _ h.2⟩) (takeR_mono fun r' rs' => hL r' (r :: rs'))
theorem appD_mono {k by_ : Nat} {e : TypeId} {s : V} {fs : List (List V)} : appD S d k by_ e s fs K → appD S d k by_ e s fs K' := by
  unfold appD; intro h; split at h
  · exact ⟨h.1, fun y => hK _ (h.2 y)⟩
  · exact ⟨h.1, takeR_mono (fun r rs h => ⟨h.1, fun y => hK _ (h.2 y)⟩) h.2⟩
  · exact h.elim
theorem appendK_mono {t : TypeId} {s x : V} : appendK P S d t s x K → appendK P S d t s x K' := by
  rw [appendK_eq, appendK_eq]
  refine onSome_mono fun u => ?_
  cases u <;> first | exact id | exact onSome_mono fun _ => onSome_mono fun _ => onSome_mono fun _ => And2_mono (onL_mono fun _ => appD_mono hK)
theorem callE_mono {f : V} {as : List V} : callE P S d f as K → callE P S d f as K' := by
  unfold callE; intro h; split at h
  · split at h
    · obtain ⟨bs, lf, hp, h⟩ := h
      exact ⟨bs, lf, hp, Ok.mono h fun _ _ _ hk hn => hK _ (hk hn)⟩
    · obtain ⟨v, h, hk⟩ := h
      exact ⟨v, h, hK _ hk⟩
  · exact h.elim
omit hK in
theorem onIf_mono {c : Prop} [Decidable c] {A A' B B' : Prop} (hA : A → A') (hB : B → B') : onIf c A B → onIf c A' B' := by
  unfold onIf; intro h
  by_cases hc : c
  · rw [if_pos hc] at h ⊢; exact hA h
  · rw [if_neg hc] at h ⊢; exact hB h
theorem appMD_mono {k by_ m : Nat} {s : V} {fs : List V} : appMD S d k by_ s m fs K → appMD S d k by_ s m fs K' := by
  unfold appMD; intro h; split at h
  · exact onIf_mono (hK _) (fun h => ⟨h.1, fun b c h1 h2 => hK _ (h.2 b c h1 h2)⟩) h
  · split at h
    · exact ⟨h.1, h.2.1, onIf_mono (hK _) (fun h => ⟨h.1, fun b c h1 h2 => hK _ (h.2 b c h1 h2)⟩) h.2.2⟩
    · exact h.elim
  · exact h.elim
theorem appMK_mono {t tx : TypeId} {s x : V} : appMK P S d t tx s x K → appMK P S d t tx s x K' := by
  unfold appMK; intro h; split at h
  · split at h
    · exact ⟨h.1, h.2.1, h.2.2.1, srcK_imp h.2.2.2 fun _ _ => appMD_mono hK⟩
    · exact h.elim
  · exact h.elim
theorem appAD_mono {k by_ m : Nat} {s : V} {fs : List V} : appAD S d k by_ s m fs K → appAD S d k by_ s m fs K' := by
  unfold appAD; intro h; split at h
  · exact ⟨h.1, h.2.1, fun b c h1 h2 => hK _ (h.2.2 b c h1 h2)⟩
  · split at h
    · exact ⟨h.1, h.2.1, h.2.2.1, fun b c h1 h2 => hK _ (h.2.2.2 b c h1 h2)⟩
    · exact h.elim
  · exact h.elim
theorem appAK_mono {t tx : TypeId} {s x : V} : appAK P S d t tx s x K → appAK P S d t tx s x K' := by
  rw [appAK_eq, appAK_eq]
  refine onSome_mono fun u => ?_
  cases u <;> first | exact id | exact onSome_mono fun _ => onSome_mono fun _ => onSome_mono fun _ => And2_mono fun h => srcK_imp h fun _ _ => appAD_mono hK
theorem appZK_mono {t tx : TypeId} {s x : V} : appZK P S d t tx s x K → appZK P S d t tx s x K' := by
  unfold appZK; intro h; split at h
  · split at h
    · obtain ⟨h1, h2, h3, h4, h5, h6, h7, h8, h⟩ := h
      exact ⟨h1, h2, h3, h4, h5, h6, h7, h8, fun b c q1 q2 => hK _ (h b c q1 q2)⟩
    · exact h.elim
  · exact h.elim
theorem copyK_mono {t tx : TypeId} {s x : V} : copyK P S d t tx s x K → copyK P S d t tx s x K' := by
  unfold copyK; intro h; split at h
  · split at h
    · refine srcK_imp h fun m fs h => ?_
      split at h
      · exact hK _ h
      · split at h
        · exact ⟨h.1, hK _ h.2⟩
        · exact h.elim
      · exact h.elim
    · exact h.elim
  · exact h.elim
theorem makeSliceK_mono {t : TypeId} {l c : V} : makeSliceK P S d t l c K → makeSliceK P S d t l c K' := by
  unfold makeSliceK; intro h; split at h
  · split at h
    · obtain ⟨h1, h2, h3, h4, h5, h6, h7, h⟩ := h
      exact ⟨h1, h2, h3, h4, h5, h6, h7, fun b q => hK _ (h b q)⟩
    · exact h.elim
  · exact h.elim
theorem appSK_mono {t tx : TypeId} {s : V} {b : ByteArray} : appSK P S d t tx s b K → appSK P S d t tx s b K' := by
  rw [appSK_eq, appSK_eq]
  refine onSome_mono fun u => ?_
  cases u <;> first | exact id | exact onSome_mono fun _ => onSome_mono fun _ => onSome_mono fun _ => And2_mono (appD_mono hK)
theorem appendAny_mono {t tx : TypeId} {s x : V} : appendAny P S d t tx s x K → appendAny P S d t tx s x K' := by
  unfold appendAny; intro h; split at h
  · exact appZK_mono hK h
  · exact h.imp (appMK_mono hK) (appAK_mono hK)
  · exact h.imp (fun h => ⟨h.1, appendK_mono hK h.2⟩) (appAK_mono hK)
  · exact appSK_mono hK h
  · exact ⟨h.1, appendK_mono hK h.2⟩
theorem makeMapK_mono {t : TypeId} {r : Option V} : makeMapK P S d t r K → makeMapK P S d t r K' := by
  unfold makeMapK; intro h; split at h
  · exact ⟨h.1, fun b hb => hK _ (h.2 b hb)⟩
  · exact h.elim
omit hK in
theorem onFind_mono {o : Option V} {A A' : V → Prop} {B B' : Prop} {p q p' q'} (hA : ∀ v, A v → A' v) (hB : B → B') : onFind o A B p q → onFind o A' B' p' q' := by
  unfold onFind; cases o <;> first | exact hB | exact hA _
omit hK in
theorem lookK_mono {t : TypeId} {x k : V} {ok : Bool} {K K' : V → Prop} (hK : ∀ v, K v → K' v) : lookK P S t x k ok K → lookK P S t x k ok K' := by
  unfold lookK; intro h; split at h
  · split at h
    · refine ⟨h.1, ?_⟩
      replace h := h.2
      unfold lookD at h ⊢
      split at h
      · exact hK _ h
      · split at h
        · exact ⟨h.1, onFind_mono (fun _ => hK _) (hK _) h.2⟩
        · exact h.elim
      · exact h.elim
    · exact h.elim
  · exact h.elim
theorem updK_mono {t : TypeId} {x k v : V} : updK P S d t x k v K → updK P S d t x k v K' := by
  unfold updK; intro h; split at h
  · split at h
    · refine ⟨h.1, ?_⟩
      replace h := h.2
      unfold updD at h ⊢
      split at h
      · split at h
        · exact ⟨h.1, onFind_mono (fun _ => hK _) (hK _) h.2⟩
        · exact h.elim
      · exact h.elim
    · exact h.elim
  · exact h.elim
theorem rangeK_mono {t : TypeId} {x : V} : rangeK P S d t x K → rangeK P S d t x K' := by
  unfold rangeK; intro h; split at h
  · split at h
    · exact fun ib hb => hK _ (h ib hb)
    · exact h.elim
  · exact h.elim
theorem nextK_mono {x : V} : nextK S d x K → nextK S d x K' := by
  unfold nextK; intro h; split at h
  · split at h
    · split at h
      · exact ⟨h.1, fun he => hK _ (h.2.1 he), fun e he hf => hK _ (h.2.2 e he hf)⟩
      · exact h.elim
    · exact h.elim
  · exact h.elim
omit hK in
theorem entryK_mono {x : V} {K K' : V → Prop} (hK : ∀ v, K v → K' v) : entryK S x K → entryK S x K' := by
  unfold entryK; intro h; split at h
  · split at h
    · split at h
      · split at h
        · exact ⟨h.1, hK _ h.2⟩
        · exact h.elim
      · exact h.elim
    · exact h.elim
  · exact h.elim
omit hK in
theorem bytesD_mono {e : TypeId} {v : V} {K K' : V → Prop} (hK : ∀ v, K v → K' v) : bytesD P S e v K → bytesD P S e v K' := by
  unfold bytesD; intro h; split at h
  · exact ⟨h.1, hK _ h.2⟩
  · refine ⟨h.1, ?_⟩
    have := h.2
    split at this
    · obtain ⟨h1, ns, h2, h3⟩ := this; exact ⟨h1, ns, h2, hK _ h3⟩
    · exact this.elim
  · obtain ⟨h1, h2, h3, ns, h4, h5⟩ := h; exact ⟨h1, h2, h3, ns, h4, hK _ h5⟩
  · exact h.elim
omit hK in
theorem convB_mono {s t : TypeId} {v : V} {K K' : V → Prop} (hK : ∀ v, K v → K' v) : convB P S s t v K → convB P S s t v K' := by
  unfold convB; intro h; split at h
  · exact bytesD_mono hK h
  · exact convK_mono hK h
theorem aOp_mono {o : Oper} : aOp P S o K → aOp P S o K' := by
  unfold aOp; intro h; split at h
  · exact allocK_mono hK h
  · exact boxK_mono hK h
  · exact storeK_mono hK h
  · exact buildSliceK_mono hK h
  · exact makeSliceK_mono hK h
  · exact makeMapK_mono hK h
  · exact lookK_mono (fun _ => hK _) h
  · exact updK_mono hK h
  · exact rangeK_mono hK h
  · exact nextK_mono hK h
  · exact entryK_mono (fun _ => hK _) h
  · exact convB_mono (fun _ => hK _) h
  · split at h
    · split at h
      · exact appendAny_mono hK h
      · exact h.elim
    · split at h
      · exact copyK_mono hK h
      · exact h.elim
    · exact callE_mono hK h
    · exact detG_mono (fun _ => hK _) h
  · exact detG_mono (fun _ => hK _) h
theorem aOps_mono {ops : Array Oper} : ∀ {l : List Oper} {S : St}, aOps P ops K l S → aOps P ops K' l S
  | [], _, h => hK _ h
  | o :: r, S, h => by
    simp only [aOps] at h ⊢
    split at h
    · exact aOp_mono (fun S' => aOps_mono) h
    · exact aOps_mono h
    · exact h.elim
theorem dOps_mono {ops : Array Oper} : ∀ {l : List Oper} {S : St}, dOps P ops K l S → dOps P ops K' l S
  | [], _, h => hK _ h
  | o :: r, S, h => by
    simp only [dOps] at h ⊢
    split at h
    · exact detG_mono (fun v => dOps_mono) h
    · exact dOps_mono h
    · exact h.elim
end

theorem gSeq_mono {P : Program} {hc : Option Bool} {ops : Array Oper} {K K' : St → Prop} (hK : ∀ S, K S → K' S) : ∀ {l : List Oper} {S : St}, gSeq P hc ops K l S → gSeq P hc ops K' l S
  | [], _, h => hK _ h
  | _ :: _, _, h => gStep_imp h fun _ h' _ _ => gSeq_mono hK h'

theorem cwp_mono {C : Ctx} : ∀ {c : Code} {S : St} {Q Q' : Exit → St → Prop}, (∀ e S, Q e S → Q' e S) → cwp C c S Q → cwp C c S Q'
  | .skip, S, Q, Q', hq, h => by simp only [cwp] at h ⊢; exact hq _ _ h
  | .label _, S, Q, Q', hq, h => by simp only [cwp] at h ⊢; exact hq _ _ h
  | .exit i, S, Q, Q', hq, h => by simp only [cwp] at h ⊢; exact hq _ _ h
  | .ret, S, Q, Q', hq, h => by simp only [cwp] at h ⊢; exact hq _ _ h
  | .seq x y, S, Q, Q', hq, h => by
    simp only [cwp] at h ⊢
    refine cwp_mono (fun e S' h' => ?_) h
    cases e <;> first | exact cwp_mono hq h' | exact hq _ _ h'
  | .cond c x y, S, Q, Q', hq, h => by
    simp only [cwp] at h ⊢
    split at h
    · rename_i b _
      cases b <;> simp only [if_true, if_false, Bool.false_eq_true] at h ⊢ <;> exact cwp_mono hq h
    · exact h.elim
  | .block id c, S, Q, Q', hq, h => by
    simp only [cwp] at h ⊢
    refine cwp_mono (fun e S' h' => ?_) h
    cases e <;> simp only [ablock] at h' ⊢ <;> first | exact hq _ _ h' | (split at h' <;> rename_i e <;> simp only [e, if_true, if_false] <;> exact hq _ _ h')
  | .scope c, S, Q, Q', hq, h => by
    simp only [cwp] at h ⊢
    refine cwp_mono (fun e S' h' => ?_) h
    cases e <;> first | exact h'.elim | exact hq _ _ h'
  | .region _ ops false, S, Q, Q', hq, h => by simp only [cwp] at h ⊢; exact aOps_mono (hq _) h
  | .region _ ops true, S, Q, Q', hq, h => by
    simp only [cwp] at h ⊢
    split at h
    · exact dOps_mono (fun S' => aOps_mono (hq _)) h
    · exact gSeq_mono (hq _) h
    · exact gSeq_mono (hq _) h
    · exact gSeq_mono (hq _) h
    · exact AWP.mono h hq
  | .loop c, S, Q, Q', hq, h => by simp only [cwp] at h ⊢; exact AWP.mono h hq
  | .rangeFunc _ _ _ _, S, Q, Q', hq, h => by simp only [cwp] at h ⊢; exact AWP.mono h hq
  | .goto _, S, Q, Q', hq, h => by simp only [cwp] at h ⊢; exact AWP.mono h hq
  | .refuse _, S, Q, Q', hq, h => by simp only [cwp] at h ⊢; exact AWP.mono h hq

/-- Arguments that are known better than asked for. -/
inductive LeL : List V → List V → Prop
  | nil : LeL [] []
  | cons {v v' : V} {l l' : List V} (h : Le v v') (r : LeL l l') : LeL (v :: l) (v' :: l')
theorem LeL.reps : ∀ {l l' : List V}, LeL l l' → ∀ {w I xs}, V.reps w I l xs → V.reps w I l' xs
  | _, _, .nil, _, _, _, h => h
  | _, _, .cons h r, w, I, [], h' => by simp [V.reps] at h'
  | _, _, .cons h r, w, I, x :: xs, h' => by simp only [V.reps] at h' ⊢; exact ⟨h w I x h'.1, r.reps h'.2⟩
theorem Ok.le {P : Program} {f : FuncId} {as as' : List V} {bs : List (Nat × B)} {Q : V → List (Nat × B) → List Row → Prop} (hl : LeL as as') (h : Ok P f as' bs Q) : Ok P f as bs Q :=
  fun w I xs hr hb => h w I xs (hl.reps hr) hb
theorem OkF_le {P : Program} {g : FuncId} {as as' : List V} {Q : V → List (Nat × B) → List Row → Prop} {p : Fix Q} (hl : LeL as as') {bx : List (Nat × B)} (v : V) (h : OkP P g as' v) (hk : Q v bx []) : OkF P g as bx Q p :=
  OkF_of v (Ok.le hl h) hk
theorem CallV_le {P : Program} {g : FuncId} {as as' : List V} {k : V → Prop} {p : Fix k} (hl : LeL as as') (v : V) (h : OkP P g as' v) (hk : k v) : CallV P g as k p := CallV_of v (OkP.v (Ok.le hl h)) hk

/-- A cut: behind a piece of code, only M is known. -/
theorem EX_cut {C : Ctx} {c : Code} {k : List It} {S : St} {Q : Exit → St → Prop} (M : St → Prop) (h : EX C (.code c :: .stop M :: k) S Q) (hM : ∀ S', M S' → EX C k S' Q) : EX C (.code c :: k) S Q := by
  refine cwp_mono (c := c) (fun e S' h' => ?_) h
  cases e <;> first | exact hM _ h' | exact h'

end Go.VL

/- The V logic, part E: '==' on structs and arrays of scalars, at any depth. -/
namespace Go.VL
open Go.RowKit

/-- What is asked of a type: checked once. -/
def eqT (P : Program) (t : TypeId) : Option (List Sh) := if tag P t = some true ∧ P.eqGuardType P.depth t = false then eqSh P 12 t else none

theorem eqAgg_eql {P : Program} {t : TypeId} {sh : List Sh} (h : eqT P t = some sh) {l m : List Value} (hl : fitL sh l = true) (hm : fitL sh m = true) : EqAgg P .eql t l m (veqL l m) := by
  unfold eqT at h
  split at h
  · rename_i hh
    intro x y w
    have := eq_law 12 t sh h 10000 (by omega) l m w hl hm
    simp only [mkV, hh.1, if_true] at this
    rw [Sem.run_bind, run_eqGuard_agg w .eql t x y _ _ hh.2, Result.andThen_ok, run_eql_struct, this, Result.andThen_ok]
  · cases h
theorem eqAgg_neq {P : Program} {t : TypeId} {sh : List Sh} (h : eqT P t = some sh) {l m : List Value} (hl : fitL sh l = true) (hm : fitL sh m = true) : EqAgg P .neq t l m (!veqL l m) := by
  unfold eqT at h
  split at h
  · rename_i hh
    intro x y w
    have := eq_law 12 t sh h 10000 (by omega) l m w hl hm
    simp only [mkV, hh.1, if_true] at this
    rw [Sem.run_bind, run_eqGuard_agg w .neq t x y _ _ hh.2, Result.andThen_ok, run_neq_struct, this, Result.andThen_ok]
  · cases h

def litV : V → Value | .lit v => v | _ => undef
def litB : V → Bool | .lit _ => true | _ => false
theorem vals_lit : ∀ {vs : List V}, vs.all litB = true → vals vs = some (vs.map litV)
  | [], _ => rfl
  | .lit v :: r, h => by
    simp only [List.all_cons, Bool.and_eq_true] at h
    simp [vals, vals_lit h.2, litV]
  | .any :: _, h => by simp [litB] at h
  | .agg _ :: _, h => by simp [litB] at h
  | .list _ _ _ :: _, h => by simp [litB] at h
  | .ref _ :: _, h => by simp [litB] at h
  | .tup _ :: _, h => by simp [litB] at h

theorem EqAgg.unique {P op t l m b b'} (h : EqAgg P op t l m b) (h' : EqAgg P op t l m b') : b = b' := by
  have := h (.const undef) (.const undef) default
  rw [h' (.const undef) (.const undef) default] at this
  simpa using this.symm

theorem EqK_eql {P : Program} {t : TypeId} {sh : List Sh} (h : eqT P t = some sh) (xs ys : List V) (k : V → Prop) (hx : (xs.all litB && fitL sh (xs.map litV)) = true) (hy : (ys.all litB && fitL sh (ys.map litV)) = true) :
    EqK P .eql t xs ys k = k (.lit (.bool (veqL (xs.map litV) (ys.map litV)))) := by
  simp only [Bool.and_eq_true] at hx hy
  refine propext ⟨fun ⟨l, m, b, h1, h2, h3, h4⟩ => ?_, fun hk => ⟨_, _, _, vals_lit hx.1, vals_lit hy.1, eqAgg_eql h hx.2 hy.2, hk⟩⟩
  rw [vals_lit hx.1] at h1; cases h1
  rw [vals_lit hy.1] at h2; cases h2
  rw [(eqAgg_eql h hx.2 hy.2).unique h3]
  exact h4
theorem EqK_neq {P : Program} {t : TypeId} {sh : List Sh} (h : eqT P t = some sh) (xs ys : List V) (k : V → Prop) (hx : (xs.all litB && fitL sh (xs.map litV)) = true) (hy : (ys.all litB && fitL sh (ys.map litV)) = true) :
    EqK P .neq t xs ys k = k (.lit (.bool (!veqL (xs.map litV) (ys.map litV)))) := by
  simp only [Bool.and_eq_true] at hx hy
  refine propext ⟨fun ⟨l, m, b, h1, h2, h3, h4⟩ => ?_, fun hk => ⟨_, _, _, vals_lit hx.1, vals_lit hy.1, eqAgg_neq h hx.2 hy.2, hk⟩⟩
  rw [vals_lit hx.1] at h1; cases h1
  rw [vals_lit hy.1] at h2; cases h2
  rw [(eqAgg_neq h hx.2 hy.2).unique h3]
  exact h4

def eqTB (P : Program) (t : TypeId) (l m : List Value) : Bool := match eqT P t with | some sh => fitL sh l && fitL sh m | none => false
theorem EqK_eql' {P : Program} {t : TypeId} (xs ys : List V) (k : V → Prop) (h : (xs.all litB && ys.all litB && eqTB P t (xs.map litV) (ys.map litV)) = true) : EqK P .eql t xs ys k = k (.lit (.bool (veqL (xs.map litV) (ys.map litV)))) := by
  simp only [Bool.and_eq_true] at h
  have h2 := h.2
  unfold eqTB at h2
  split at h2
  · rename_i sh hs
    simp only [Bool.and_eq_true] at h2
    exact EqK_eql hs xs ys k (by simp [h.1.1, h2.1]) (by simp [h.1.2, h2.2])
  · cases h2
theorem EqK_neq' {P : Program} {t : TypeId} (xs ys : List V) (k : V → Prop) (h : (xs.all litB && ys.all litB && eqTB P t (xs.map litV) (ys.map litV)) = true) : EqK P .neq t xs ys k = k (.lit (.bool (!veqL (xs.map litV) (ys.map litV)))) := by
  simp only [Bool.and_eq_true] at h
  have h2 := h.2
  unfold eqTB at h2
  split at h2
  · rename_i sh hs
    simp only [Bool.and_eq_true] at h2
    exact EqK_neq hs xs ys k (by simp [h.1.1, h2.1]) (by simp [h.1.2, h2.2])
  · cases h2

end Go.VL

/- Facts on the types and functions of this translation, printed by gentypes.py. -/
namespace Go.Proofs.Ytopfanlkbepemaa.Ty
open Go.VL Go.Proofs
theorem mixed : Try.prog.follows .mixedOrders = true := eqq (by kernel_rfl)
theorem sz3 : tsz Try.prog 3 = some 1 := eqq (by kernel_rfl)
theorem by3 : tby Try.prog 3 = some 8 := eqq (by kernel_rfl)
theorem ag3 : tag Try.prog 3 = some false := eqq (by kernel_rfl)
theorem zr3 : tzr Try.prog 3 = some [.int .i64 0] := eqq (by kernel_rfl)
theorem un3 : Try.prog.underlying 3 = some (.int .i64) := eqq (by kernel_rfl)
theorem sz4 : tsz Try.prog 4 = some 1 := eqq (by kernel_rfl)
theorem by4 : tby Try.prog 4 = some 1 := eqq (by kernel_rfl)
theorem ag4 : tag Try.prog 4 = some false := eqq (by kernel_rfl)
theorem zr4 : tzr Try.prog 4 = some [.bool false] := eqq (by kernel_rfl)
theorem un4 : Try.prog.underlying 4 = some .bool := eqq (by kernel_rfl)
theorem sz5 : tsz Try.prog 5 = some 1 := eqq (by kernel_rfl)
theorem by5 : tby Try.prog 5 = some 1 := eqq (by kernel_rfl)
theorem ag5 : tag Try.prog 5 = some false := eqq (by kernel_rfl)
theorem zr5 : tzr Try.prog 5 = some [.int .u8 0] := eqq (by kernel_rfl)
theorem un5 : Try.prog.underlying 5 = some (.int .u8) := eqq (by kernel_rfl)
theorem sz9 : tsz Try.prog 9 = some 1 := eqq (by kernel_rfl)
theorem by9 : tby Try.prog 9 = some 16 := eqq (by kernel_rfl)
theorem ag9 : tag Try.prog 9 = some false := eqq (by kernel_rfl)
theorem zr9 : tzr Try.prog 9 = some [.string ⟨#[]⟩] := eqq (by kernel_rfl)
theorem un9 : Try.prog.underlying 9 = some .string := eqq (by kernel_rfl)
theorem sz22 : tsz Try.prog 22 = some 1 := eqq (by kernel_rfl)
theorem by22 : tby Try.prog 22 = some 24 := eqq (by kernel_rfl)
theorem ag22 : tag Try.prog 22 = some false := eqq (by kernel_rfl)
theorem zr22 : tzr Try.prog 22 = some [.slice none 0 0] := eqq (by kernel_rfl)
theorem un22 : Try.prog.underlying 22 = some (.slice 65) := eqq (by kernel_rfl)
theorem sz24 : tsz Try.prog 24 = some 2 := eqq (by kernel_rfl)
theorem by24 : tby Try.prog 24 = some 32 := eqq (by kernel_rfl)
theorem ag24 : tag Try.prog 24 = some true := eqq (by kernel_rfl)
theorem zr24 : tzr Try.prog 24 = some [.int .i64 0, .slice none 0 0] := eqq (by kernel_rfl)
theorem fl24_0 : fld Try.prog 24 0 = some (0, 3) := eqq (by kernel_rfl)
theorem pl24_0 : placeOf Try.prog 24 0 = some (0, 1) := eqq (by kernel_rfl)
theorem fl24_1 : fld Try.prog 24 1 = some (1, 22) := eqq (by kernel_rfl)
theorem pl24_1 : placeOf Try.prog 24 1 = some (1, 1) := eqq (by kernel_rfl)
theorem sz26 : tsz Try.prog 26 = some 2 := eqq (by kernel_rfl)
theorem by26 : tby Try.prog 26 = some 16 := eqq (by kernel_rfl)
theorem ag26 : tag Try.prog 26 = some true := eqq (by kernel_rfl)
theorem zr26 : tzr Try.prog 26 = some [.int .i64 0, .int .i64 0] := eqq (by kernel_rfl)
theorem fl26_0 : fld Try.prog 26 0 = some (0, 3) := eqq (by kernel_rfl)
theorem pl26_0 : placeOf Try.prog 26 0 = some (0, 1) := eqq (by kernel_rfl)
theorem fl26_1 : fld Try.prog 26 1 = some (1, 3) := eqq (by kernel_rfl)
theorem pl26_1 : placeOf Try.prog 26 1 = some (1, 1) := eqq (by kernel_rfl)
theorem sz29 : tsz Try.prog 29 = some 1 := eqq (by kernel_rfl)
theorem by29 : tby Try.prog 29 = some 8 := eqq (by kernel_rfl)
theorem ag29 : tag Try.prog 29 = some false := eqq (by kernel_rfl)
theorem zr29 : tzr Try.prog 29 = some [.int .i64 0] := eqq (by kernel_rfl)
theorem un29 : Try.prog.underlying 29 = some (.int .i64) := eqq (by kernel_rfl)
theorem sz30 : tsz Try.prog 30 = some 1 := eqq (by kernel_rfl)
theorem by30 : tby Try.prog 30 = some 0 := eqq (by kernel_rfl)
theorem ag30 : tag Try.prog 30 = some false := eqq (by kernel_rfl)
theorem sz32 : tsz Try.prog 32 = some 1 := eqq (by kernel_rfl)
theorem by32 : tby Try.prog 32 = some 24 := eqq (by kernel_rfl)
theorem ag32 : tag Try.prog 32 = some false := eqq (by kernel_rfl)
theorem zr32 : tzr Try.prog 32 = some [.slice none 0 0] := eqq (by kernel_rfl)
theorem un32 : Try.prog.underlying 32 = some (.slice 56) := eqq (by kernel_rfl)
theorem sz33 : tsz Try.prog 33 = some 1 := eqq (by kernel_rfl)
theorem by33 : tby Try.prog 33 = some 0 := eqq (by kernel_rfl)
theorem ag33 : tag Try.prog 33 = some false := eqq (by kernel_rfl)
theorem sz35 : tsz Try.prog 35 = some 1 := eqq (by kernel_rfl)
theorem by35 : tby Try.prog 35 = some 24 := eqq (by kernel_rfl)
theorem ag35 : tag Try.prog 35 = some false := eqq (by kernel_rfl)
theorem zr35 : tzr Try.prog 35 = some [.slice none 0 0] := eqq (by kernel_rfl)
theorem un35 : Try.prog.underlying 35 = some (.slice 9) := eqq (by kernel_rfl)
theorem sz36 : tsz Try.prog 36 = some 1 := eqq (by kernel_rfl)
theorem by36 : tby Try.prog 36 = some 0 := eqq (by kernel_rfl)
theorem ag36 : tag Try.prog 36 = some false := eqq (by kernel_rfl)
theorem sz41 : tsz Try.prog 41 = some 1 := eqq (by kernel_rfl)
theorem by41 : tby Try.prog 41 = some 24 := eqq (by kernel_rfl)
theorem ag41 : tag Try.prog 41 = some false := eqq (by kernel_rfl)
theorem zr41 : tzr Try.prog 41 = some [.slice none 0 0] := eqq (by kernel_rfl)
theorem un41 : Try.prog.underlying 41 = some (.slice 61) := eqq (by kernel_rfl)
theorem sz47 : tsz Try.prog 47 = some 1 := eqq (by kernel_rfl)
theorem by47 : tby Try.prog 47 = some 24 := eqq (by kernel_rfl)
theorem ag47 : tag Try.prog 47 = some false := eqq (by kernel_rfl)
theorem zr47 : tzr Try.prog 47 = some [.slice none 0 0] := eqq (by kernel_rfl)
theorem un47 : Try.prog.underlying 47 = some (.slice 53) := eqq (by kernel_rfl)
theorem sz53 : tsz Try.prog 53 = some 2 := eqq (by kernel_rfl)
theorem by53 : tby Try.prog 53 = some 24 := eqq (by kernel_rfl)
theorem ag53 : tag Try.prog 53 = some true := eqq (by kernel_rfl)
theorem zr53 : tzr Try.prog 53 = some [.string ⟨#[]⟩, .int .i64 0] := eqq (by kernel_rfl)
theorem fl53_0 : fld Try.prog 53 0 = some (0, 9) := eqq (by kernel_rfl)
theorem pl53_0 : placeOf Try.prog 53 0 = some (0, 1) := eqq (by kernel_rfl)
theorem fl53_1 : fld Try.prog 53 1 = some (1, 3) := eqq (by kernel_rfl)
theorem pl53_1 : placeOf Try.prog 53 1 = some (1, 1) := eqq (by kernel_rfl)
theorem sz54 : tsz Try.prog 54 = some 1 := eqq (by kernel_rfl)
theorem by54 : tby Try.prog 54 = some 24 := eqq (by kernel_rfl)
theorem ag54 : tag Try.prog 54 = some false := eqq (by kernel_rfl)
theorem zr54 : tzr Try.prog 54 = some [.slice none 0 0] := eqq (by kernel_rfl)
theorem un54 : Try.prog.underlying 54 = some (.slice 109) := eqq (by kernel_rfl)
theorem sz56 : tsz Try.prog 56 = some 8 := eqq (by kernel_rfl)
theorem by56 : tby Try.prog 56 = some 104 := eqq (by kernel_rfl)
theorem ag56 : tag Try.prog 56 = some true := eqq (by kernel_rfl)
theorem zr56 : tzr Try.prog 56 = some [.string ⟨#[]⟩, .int .i64 0, .string ⟨#[]⟩, .string ⟨#[]⟩, .int .i64 0, .slice none 0 0, .int .i64 0, .int .i64 0] := eqq (by kernel_rfl)
theorem fl56_0 : fld Try.prog 56 0 = some (0, 53) := eqq (by kernel_rfl)
theorem pl56_0 : placeOf Try.prog 56 0 = some (0, 2) := eqq (by kernel_rfl)
theorem fl56_1 : fld Try.prog 56 1 = some (2, 9) := eqq (by kernel_rfl)
theorem pl56_1 : placeOf Try.prog 56 1 = some (2, 1) := eqq (by kernel_rfl)
theorem fl56_2 : fld Try.prog 56 2 = some (3, 9) := eqq (by kernel_rfl)
theorem pl56_2 : placeOf Try.prog 56 2 = some (3, 1) := eqq (by kernel_rfl)
theorem fl56_3 : fld Try.prog 56 3 = some (4, 3) := eqq (by kernel_rfl)
theorem pl56_3 : placeOf Try.prog 56 3 = some (4, 1) := eqq (by kernel_rfl)
theorem fl56_4 : fld Try.prog 56 4 = some (5, 54) := eqq (by kernel_rfl)
theorem pl56_4 : placeOf Try.prog 56 4 = some (5, 1) := eqq (by kernel_rfl)
theorem fl56_5 : fld Try.prog 56 5 = some (6, 3) := eqq (by kernel_rfl)
theorem pl56_5 : placeOf Try.prog 56 5 = some (6, 1) := eqq (by kernel_rfl)
theorem fl56_6 : fld Try.prog 56 6 = some (7, 3) := eqq (by kernel_rfl)
theorem pl56_6 : placeOf Try.prog 56 6 = some (7, 1) := eqq (by kernel_rfl)
theorem sz61 : tsz Try.prog 61 = some 10 := eqq (by kernel_rfl)
theorem by61 : tby Try.prog 61 = some 120 := eqq (by kernel_rfl)
theorem ag61 : tag Try.prog 61 = some true := eqq (by kernel_rfl)
theorem zr61 : tzr Try.prog 61 = some [.string ⟨#[]⟩, .int .i64 0, .string ⟨#[]⟩, .string ⟨#[]⟩, .int .i64 0, .slice none 0 0, .int .i64 0, .int .i64 0, .int .i64 0, .int .i64 0] := eqq (by kernel_rfl)
theorem fl61_0 : fld Try.prog 61 0 = some (0, 56) := eqq (by kernel_rfl)
theorem pl61_0 : placeOf Try.prog 61 0 = some (0, 8) := eqq (by kernel_rfl)
theorem fl61_1 : fld Try.prog 61 1 = some (8, 3) := eqq (by kernel_rfl)
theorem pl61_1 : placeOf Try.prog 61 1 = some (8, 1) := eqq (by kernel_rfl)
theorem fl61_2 : fld Try.prog 61 2 = some (9, 3) := eqq (by kernel_rfl)
theorem pl61_2 : placeOf Try.prog 61 2 = some (9, 1) := eqq (by kernel_rfl)
theorem sz65 : tsz Try.prog 65 = some 2 := eqq (by kernel_rfl)
theorem by65 : tby Try.prog 65 = some 40 := eqq (by kernel_rfl)
theorem ag65 : tag Try.prog 65 = some true := eqq (by kernel_rfl)
theorem zr65 : tzr Try.prog 65 = some [.string ⟨#[]⟩, .slice none 0 0] := eqq (by kernel_rfl)
theorem fl65_0 : fld Try.prog 65 0 = some (0, 9) := eqq (by kernel_rfl)
theorem pl65_0 : placeOf Try.prog 65 0 = some (0, 1) := eqq (by kernel_rfl)
theorem fl65_1 : fld Try.prog 65 1 = some (1, 41) := eqq (by kernel_rfl)
theorem pl65_1 : placeOf Try.prog 65 1 = some (1, 1) := eqq (by kernel_rfl)
theorem sz68 : tsz Try.prog 68 = some 1 := eqq (by kernel_rfl)
theorem by68 : tby Try.prog 68 = some 8 := eqq (by kernel_rfl)
theorem ag68 : tag Try.prog 68 = some false := eqq (by kernel_rfl)
theorem zr68 : tzr Try.prog 68 = some [.pointer none] := eqq (by kernel_rfl)
theorem un68 : Try.prog.underlying 68 = some (.pointer 75) := eqq (by kernel_rfl)
theorem sz70 : tsz Try.prog 70 = some 1 := eqq (by kernel_rfl)
theorem by70 : tby Try.prog 70 = some 0 := eqq (by kernel_rfl)
theorem ag70 : tag Try.prog 70 = some false := eqq (by kernel_rfl)
theorem sz73 : tsz Try.prog 73 = some 1 := eqq (by kernel_rfl)
theorem by73 : tby Try.prog 73 = some 8 := eqq (by kernel_rfl)
theorem ag73 : tag Try.prog 73 = some false := eqq (by kernel_rfl)
theorem zr73 : tzr Try.prog 73 = some [.nilFunc] := eqq (by kernel_rfl)
theorem sz75 : tsz Try.prog 75 = some 2 := eqq (by kernel_rfl)
theorem by75 : tby Try.prog 75 = some 32 := eqq (by kernel_rfl)
theorem ag75 : tag Try.prog 75 = some true := eqq (by kernel_rfl)
theorem zr75 : tzr Try.prog 75 = some [.slice none 0 0, .nilFunc] := eqq (by kernel_rfl)
theorem fl75_0 : fld Try.prog 75 0 = some (0, 22) := eqq (by kernel_rfl)
theorem pl75_0 : placeOf Try.prog 75 0 = some (0, 1) := eqq (by kernel_rfl)
theorem fl75_1 : fld Try.prog 75 1 = some (1, 73) := eqq (by kernel_rfl)
theorem pl75_1 : placeOf Try.prog 75 1 = some (1, 1) := eqq (by kernel_rfl)
theorem sz78 : tsz Try.prog 78 = some 1 := eqq (by kernel_rfl)
theorem by78 : tby Try.prog 78 = some 8 := eqq (by kernel_rfl)
theorem ag78 : tag Try.prog 78 = some false := eqq (by kernel_rfl)
theorem zr78 : tzr Try.prog 78 = some [.nilFunc] := eqq (by kernel_rfl)
theorem sz86 : tsz Try.prog 86 = some 1 := eqq (by kernel_rfl)
theorem by86 : tby Try.prog 86 = some 8 := eqq (by kernel_rfl)
theorem ag86 : tag Try.prog 86 = some false := eqq (by kernel_rfl)
theorem zr86 : tzr Try.prog 86 = some [.pointer none] := eqq (by kernel_rfl)
theorem un86 : Try.prog.underlying 86 = some (.pointer 65) := eqq (by kernel_rfl)
theorem sz90 : tsz Try.prog 90 = some 1 := eqq (by kernel_rfl)
theorem by90 : tby Try.prog 90 = some 8 := eqq (by kernel_rfl)
theorem ag90 : tag Try.prog 90 = some false := eqq (by kernel_rfl)
theorem zr90 : tzr Try.prog 90 = some [.nilFunc] := eqq (by kernel_rfl)
theorem sz98 : tsz Try.prog 98 = some 1 := eqq (by kernel_rfl)
theorem by98 : tby Try.prog 98 = some 24 := eqq (by kernel_rfl)
theorem ag98 : tag Try.prog 98 = some false := eqq (by kernel_rfl)
theorem zr98 : tzr Try.prog 98 = some [.slice none 0 0] := eqq (by kernel_rfl)
theorem un98 : Try.prog.underlying 98 = some (.slice 3) := eqq (by kernel_rfl)
theorem sz101 : tsz Try.prog 101 = some 1 := eqq (by kernel_rfl)
theorem by101 : tby Try.prog 101 = some 8 := eqq (by kernel_rfl)
theorem ag101 : tag Try.prog 101 = some false := eqq (by kernel_rfl)
theorem zr101 : tzr Try.prog 101 = some [.map none] := eqq (by kernel_rfl)
theorem un101 : Try.prog.underlying 101 = some (.map 103 61) := eqq (by kernel_rfl)
theorem sz103 : tsz Try.prog 103 = some 9 := eqq (by kernel_rfl)
theorem by103 : tby Try.prog 103 = some 104 := eqq (by kernel_rfl)
theorem ag103 : tag Try.prog 103 = some true := eqq (by kernel_rfl)
theorem zr103 : tzr Try.prog 103 = some [.string ⟨#[]⟩, .int .i64 0, .string ⟨#[]⟩, .string ⟨#[]⟩, .int .i64 0, .int .i64 0, .int .i64 0, .int .i64 0, .string ⟨#[]⟩] := eqq (by kernel_rfl)
theorem fl103_0 : fld Try.prog 103 0 = some (0, 53) := eqq (by kernel_rfl)
theorem pl103_0 : placeOf Try.prog 103 0 = some (0, 2) := eqq (by kernel_rfl)
theorem fl103_1 : fld Try.prog 103 1 = some (2, 9) := eqq (by kernel_rfl)
theorem pl103_1 : placeOf Try.prog 103 1 = some (2, 1) := eqq (by kernel_rfl)
theorem fl103_2 : fld Try.prog 103 2 = some (3, 9) := eqq (by kernel_rfl)
theorem pl103_2 : placeOf Try.prog 103 2 = some (3, 1) := eqq (by kernel_rfl)
theorem fl103_3 : fld Try.prog 103 3 = some (4, 3) := eqq (by kernel_rfl)
theorem pl103_3 : placeOf Try.prog 103 3 = some (4, 1) := eqq (by kernel_rfl)
theorem fl103_4 : fld Try.prog 103 4 = some (5, 3) := eqq (by kernel_rfl)
theorem pl103_4 : placeOf Try.prog 103 4 = some (5, 1) := eqq (by kernel_rfl)
theorem fl103_5 : fld Try.prog 103 5 = some (6, 3) := eqq (by kernel_rfl)
theorem pl103_5 : placeOf Try.prog 103 5 = some (6, 1) := eqq (by kernel_rfl)
theorem fl103_6 : fld Try.prog 103 6 = some (7, 3) := eqq (by kernel_rfl)
theorem pl103_6 : placeOf Try.prog 103 6 = some (7, 1) := eqq (by kernel_rfl)
theorem fl103_7 : fld Try.prog 103 7 = some (8, 9) := eqq (by kernel_rfl)
theorem pl103_7 : placeOf Try.prog 103 7 = some (8, 1) := eqq (by kernel_rfl)
theorem sz105 : tsz Try.prog 105 = some 1 := eqq (by kernel_rfl)
theorem by105 : tby Try.prog 105 = some 0 := eqq (by kernel_rfl)
theorem ag105 : tag Try.prog 105 = some false := eqq (by kernel_rfl)
theorem sz107 : tsz Try.prog 107 = some 1 := eqq (by kernel_rfl)
theorem by107 : tby Try.prog 107 = some 8 := eqq (by kernel_rfl)
theorem ag107 : tag Try.prog 107 = some false := eqq (by kernel_rfl)
theorem zr107 : tzr Try.prog 107 = some [.nilFunc] := eqq (by kernel_rfl)
theorem sz109 : tsz Try.prog 109 = some 3 := eqq (by kernel_rfl)
theorem by109 : tby Try.prog 109 = some 32 := eqq (by kernel_rfl)
theorem ag109 : tag Try.prog 109 = some true := eqq (by kernel_rfl)
theorem zr109 : tzr Try.prog 109 = some [.int .i64 0, .int .i64 0, .string ⟨#[]⟩] := eqq (by kernel_rfl)
theorem fl109_0 : fld Try.prog 109 0 = some (0, 3) := eqq (by kernel_rfl)
theorem pl109_0 : placeOf Try.prog 109 0 = some (0, 1) := eqq (by kernel_rfl)
theorem fl109_1 : fld Try.prog 109 1 = some (1, 3) := eqq (by kernel_rfl)
theorem pl109_1 : placeOf Try.prog 109 1 = some (1, 1) := eqq (by kernel_rfl)
theorem fl109_2 : fld Try.prog 109 2 = some (2, 9) := eqq (by kernel_rfl)
theorem pl109_2 : placeOf Try.prog 109 2 = some (2, 1) := eqq (by kernel_rfl)
theorem sz112 : tsz Try.prog 112 = some 1 := eqq (by kernel_rfl)
theorem by112 : tby Try.prog 112 = some 8 := eqq (by kernel_rfl)
theorem ag112 : tag Try.prog 112 = some false := eqq (by kernel_rfl)
theorem zr112 : tzr Try.prog 112 = some [.int .u64 0] := eqq (by kernel_rfl)
theorem un112 : Try.prog.underlying 112 = some (.int .u64) := eqq (by kernel_rfl)
theorem sz115 : tsz Try.prog 115 = some 1 := eqq (by kernel_rfl)
theorem by115 : tby Try.prog 115 = some 24 := eqq (by kernel_rfl)
theorem ag115 : tag Try.prog 115 = some false := eqq (by kernel_rfl)
theorem zr115 : tzr Try.prog 115 = some [.slice none 0 0] := eqq (by kernel_rfl)
theorem un115 : Try.prog.underlying 115 = some (.slice 5) := eqq (by kernel_rfl)
theorem sz119 : tsz Try.prog 119 = some 1 := eqq (by kernel_rfl)
theorem by119 : tby Try.prog 119 = some 8 := eqq (by kernel_rfl)
theorem ag119 : tag Try.prog 119 = some false := eqq (by kernel_rfl)
theorem zr119 : tzr Try.prog 119 = some [.nilFunc] := eqq (by kernel_rfl)
theorem eq26 : eqT Try.prog 26 = some [.i .i64, .i .i64] := eqq (by kernel_rfl)
theorem eq53 : eqT Try.prog 53 = some [.s, .i .i64] := eqq (by kernel_rfl)
theorem eq103 : eqT Try.prog 103 = some [.s, .i .i64, .s, .s, .i .i64, .i .i64, .i .i64, .i .i64, .s] := eqq (by kernel_rfl)
theorem eq109 : eqT Try.prog 109 = some [.i .i64, .i .i64, .s] := eqq (by kernel_rfl)
theorem mp101 : mapT Try.prog 101 = some (103, ([.s, .i .i64, .s, .s, .i .i64, .i .i64, .i .i64, .i .i64, .s], true), .agg [.lit (.string ⟨#[]⟩), .lit (.int .i64 0), .lit (.string ⟨#[]⟩), .lit (.string ⟨#[]⟩), .lit (.int .i64 0), .lit (.slice none 0 0), .lit (.int .i64 0), .lit (.int .i64 0), .lit (.int .i64 0), .lit (.int .i64 0)]) := eqq (by kernel_rfl)
theorem cb10 : callB Try.prog 10 = true := eqq (by kernel_rfl)   -- asof/asoflaw22.example
theorem cb11 : callB Try.prog 11 = true := eqq (by kernel_rfl)   -- asof/asoflaw22.right
theorem cb12 : callB Try.prog 12 = true := eqq (by kernel_rfl)   -- asof/arrange.Advance
theorem cb13 : callB Try.prog 13 = true := eqq (by kernel_rfl)   -- asof/arrange.Rows
theorem cb14 : callB Try.prog 14 = true := eqq (by kernel_rfl)   -- asof/arrange.Keys
theorem cb15 : callB Try.prog 15 = true := eqq (by kernel_rfl)   -- asof/asofref13.SameRows
theorem cb16 : callB Try.prog 16 = true := eqq (by kernel_rfl)   -- asof/asofref22.SameKeys
theorem cb17 : callB Try.prog 17 = true := eqq (by kernel_rfl)   -- asof/arrange.Insert
theorem cb24 : callB Try.prog 24 = true := eqq (by kernel_rfl)   -- asof/asoflaw22.ever
theorem cb25 : callB Try.prog 25 = true := eqq (by kernel_rfl)   -- asof/facts.CompareID
theorem cb26 : callB Try.prog 26 = true := eqq (by kernel_rfl)   -- asof/asoflaw22.few
theorem cb28 : callB Try.prog 28 = true := eqq (by kernel_rfl)   -- asof/asofref22.Check
theorem cb29 : callB Try.prog 29 = true := eqq (by kernel_rfl)   -- asof/arrange.New
theorem cb33 : callB Try.prog 33 = true := eqq (by kernel_rfl)   -- asof/asoflaw22.row
theorem cb34 : callB Try.prog 34 = true := eqq (by kernel_rfl)   -- asof/arrange.every
theorem cb35 : callB Try.prog 35 = true := eqq (by kernel_rfl)   -- asof/arrange.of
theorem cb36 : callB Try.prog 36 = true := eqq (by kernel_rfl)   -- asof/arrange.groups
theorem cb37 : callB Try.prog 37 = true := eqq (by kernel_rfl)   -- (*asof/arrange.sorted[string, asof/api.Group]).place
theorem cb38 : callB Try.prog 38 = true := eqq (by kernel_rfl)   -- asof/delta.At
theorem cb39 : callB Try.prog 39 = true := eqq (by kernel_rfl)   -- asof/asofref13.SameRow
theorem cb40 : callB Try.prog 40 = true := eqq (by kernel_rfl)   -- slices.ContainsFunc[[]asof/api.Delta,asof/api.Delta]
theorem cb41 : callB Try.prog 41 = true := eqq (by kernel_rfl)   -- asof/arrange.Insert$1
theorem cb42 : callB Try.prog 42 = true := eqq (by kernel_rfl)   -- asof/asofref22.sameDeltas
theorem cb44 : callB Try.prog 44 = true := eqq (by kernel_rfl)   -- asof/asofref20.At
theorem cb45 : callB Try.prog 45 = true := eqq (by kernel_rfl)   -- asof/delta.Purge
theorem cb46 : callB Try.prog 46 = true := eqq (by kernel_rfl)   -- asof/asofref22.Of
theorem cb47 : callB Try.prog 47 = true := eqq (by kernel_rfl)   -- asof/asofref20.Purge
theorem cb48 : callB Try.prog 48 = true := eqq (by kernel_rfl)   -- asof/asofref22.All
theorem cb49 : callB Try.prog 49 = true := eqq (by kernel_rfl)   -- cmp.Or[int]
theorem cb50 : callB Try.prog 50 = true := eqq (by kernel_rfl)   -- cmp.Compare[string]
theorem cb51 : callB Try.prog 51 = true := eqq (by kernel_rfl)   -- cmp.Compare[int]
theorem cb53 : callB Try.prog 53 = true := eqq (by kernel_rfl)   -- asof/delta.Consolidate
theorem cb54 : callB Try.prog 54 = true := eqq (by kernel_rfl)   -- asof/arrange.same
theorem cb55 : callB Try.prog 55 = true := eqq (by kernel_rfl)   -- asof/asofref20.Consolidate
theorem cb56 : callB Try.prog 56 = true := eqq (by kernel_rfl)   -- (*asof/arrange.sorted[string, asof/api.Group]).at
theorem cb57 : callB Try.prog 57 = true := eqq (by kernel_rfl)   -- slices.Clone[[]asof/api.Group,asof/api.Group]
theorem cb58 : callB Try.prog 58 = true := eqq (by kernel_rfl)   -- asof/arrange.groups$1
theorem cb59 : callB Try.prog 59 = true := eqq (by kernel_rfl)   -- slices.BinarySearchFunc[[]asof/api.Group,asof/api.Group,string]
theorem cb60 : callB Try.prog 60 = true := eqq (by kernel_rfl)   -- (*asof/arrange.sorted[string, asof/api.Group]).place$1
theorem cb61 : callB Try.prog 61 = true := eqq (by kernel_rfl)   -- asof/asofref13.SameFields
theorem cb62 : callB Try.prog 62 = true := eqq (by kernel_rfl)   -- slices.IndexFunc[[]asof/api.Delta,asof/api.Delta]
theorem cb63 : callB Try.prog 63 = true := eqq (by kernel_rfl)   -- asof/asofref20.Count
theorem cb64 : callB Try.prog 64 = true := eqq (by kernel_rfl)   -- asof/asofref20.In
theorem cb65 : callB Try.prog 65 = true := eqq (by kernel_rfl)   -- asof/asofref20.CompareFull
theorem cb66 : callB Try.prog 66 = true := eqq (by kernel_rfl)   -- slices.Contains[[]asof/api.FactID,asof/api.FactID]
theorem cb67 : callB Try.prog 67 = true := eqq (by kernel_rfl)   -- asof/asofref22.keys
theorem cb68 : callB Try.prog 68 = true := eqq (by kernel_rfl)   -- asof/asofref15.InIDs
theorem cb69 : callB Try.prog 69 = true := eqq (by kernel_rfl)   -- cmp.isNaN[string]
theorem cb70 : callB Try.prog 70 = true := eqq (by kernel_rfl)   -- cmp.isNaN[int]
theorem cb71 : callB Try.prog 71 = true := eqq (by kernel_rfl)   -- asof/delta.markOf
theorem cb72 : callB Try.prog 72 = true := eqq (by kernel_rfl)   -- slices.SortFunc[[]asof/api.Delta,asof/api.Delta]
theorem cb73 : callB Try.prog 73 = true := eqq (by kernel_rfl)   -- asof/delta.Consolidate$1
theorem cb74 : callB Try.prog 74 = true := eqq (by kernel_rfl)   -- asof/delta.compareFull
theorem cb76 : callB Try.prog 76 = true := eqq (by kernel_rfl)   -- asof/asofref20.put
theorem cb77 : callB Try.prog 77 = true := eqq (by kernel_rfl)   -- slices.Insert[[]asof/api.Group,asof/api.Group]
theorem cb78 : callB Try.prog 78 = true := eqq (by kernel_rfl)   -- asof/asofref13.CompareRow
theorem cb79 : callB Try.prog 79 = true := eqq (by kernel_rfl)   -- asof/asofref20.order
theorem cb80 : callB Try.prog 80 = true := eqq (by kernel_rfl)   -- asof/asofref20.words
theorem cb81 : callB Try.prog 81 = true := eqq (by kernel_rfl)   -- asof/asofref20.fields
theorem cb82 : callB Try.prog 82 = true := eqq (by kernel_rfl)   -- slices.Index[[]asof/api.FactID,asof/api.FactID]
theorem cb85 : callB Try.prog 85 = true := eqq (by kernel_rfl)   -- asof/facts.CompareRow
theorem cb86 : callB Try.prog 86 = true := eqq (by kernel_rfl)   -- strings.Compare
theorem cb87 : callB Try.prog 87 = true := eqq (by kernel_rfl)   -- slices.CompareFunc[[]asof/api.Value,[]asof/api.Value,asof/api.Value,asof/api.Value]
theorem cb88 : callB Try.prog 88 = true := eqq (by kernel_rfl)   -- asof/values.Compare
theorem cb89 : callB Try.prog 89 = true := eqq (by kernel_rfl)   -- asof/asofref20.less
theorem cb90 : callB Try.prog 90 = false := eqq (by kernel_rfl)   -- slices.overlaps[asof/api.Group]
theorem cb91 : callB Try.prog 91 = true := eqq (by kernel_rfl)   -- slices.rotateRight[asof/api.Group]
theorem cb92 : callB Try.prog 92 = true := eqq (by kernel_rfl)   -- asof/asofref13.compare
theorem cb93 : callB Try.prog 93 = true := eqq (by kernel_rfl)   -- asof/asofref13.CompareID
theorem cb94 : callB Try.prog 94 = true := eqq (by kernel_rfl)   -- asof/asofref05.Compare
theorem cb105 : callB Try.prog 105 = true := eqq (by kernel_rfl)   -- internal/bytealg.CompareString
theorem cb107 : callB Try.prog 107 = true := eqq (by kernel_rfl)   -- asof/asofref05.order
theorem cb113 : callB Try.prog 113 = false := eqq (by kernel_rfl)   -- internal/bytealg.abigen_runtime_cmpstring
end Go.Proofs.Ytopfanlkbepemaa.Ty

/- The V logic, part K: a box that is written no more becomes cells that stay: at a function's end, or as it goes into a call. -/
namespace Go.VL
open Go.RowKit

theorem ats_of_box {w : World} {I : Cells} {b : Nat} : ∀ {cs : List V} {xs : List Value} {o : Nat}, (∀ j x, xs[j]? = some x → w.cell? ⟨b, o + j, none⟩ = some x ∧ I b (o + j) ∧ one x) → V.reps w I cs xs → V.ats w I cs b o
  | [], _, _, _, _ => by simp only [V.ats]
  | c :: cs, x :: xs, o, h, hr => by
    simp only [V.reps] at hr
    simp only [V.ats]
    obtain ⟨h1, h2, h3⟩ := h 0 x rfl
    refine ⟨⟨x, h1, h2, h3, hr.1⟩, ats_of_box (xs := xs) (fun j y hy => ?_) hr.2⟩
    have := h (j + 1) y (by simpa using hy)
    rwa [show o + (j + 1) = o + 1 + j by omega] at this
  | _ :: _, [], _, _, hr => by simp [V.reps] at hr

theorem lies_of_ats {w : World} {I : Cells} {b k : Nat} : ∀ {es : List (List V)} {o : Nat}, (∀ e ∈ es, e.length = k) → V.ats w I es.flatten b o → V.lies w I k es b o
  | [], _, _, _ => by simp only [V.lies]
  | e :: es, o, hk, h => by
    simp only [List.flatten_cons] at h
    have := ats_append.1 h
    simp only [V.lies]
    have he := hk e List.mem_cons_self
    rw [he] at this
    exact ⟨this.1, he, lies_of_ats (fun e' he' => hk e' (List.mem_cons_of_mem _ he')) this.2⟩

/-- The cells of I, and those of block b. -/
def plusB (I : Cells) (b n : Nat) : Cells := fun c o => I c o ∨ (c = b ∧ o < n)

theorem Stays.plus (w : World) (I : Cells) (b n : Nat) : Stays w I w (plusB I b n) := fun _ _ h => ⟨.inl h, rfl⟩

theorem box_frozen {w : World} {I : Cells} {b : Nat} {cs : List V} (h : BoxAt w I b (.c cs)) : V.ats w (plusB I b cs.length) cs b 0 := by
  obtain ⟨arr, e, h1, h2, h3, h4⟩ := h
  refine ats_of_box (xs := arr.toList) (fun j x hx => ?_) (V.reps_mono (Stays.plus w I b cs.length) _ _ h3)
  have hl := reps_length h3
  have hj : j < arr.toList.length := (List.getElem?_eq_some_iff.1 hx).1
  refine ⟨by simp [World.cell?, h1]; simpa using hx, .inr ⟨rfl, by omega⟩, h2 x (List.mem_of_getElem? hx)⟩

/-- The heap without the box. -/
theorem Heap.frozen {w : World} {I : Cells} {b n : Nat} {cs : List V} {bs : List (Nat × B)} {rs : List Row} (h : Heap w I ((b, .c cs) :: bs) rs) : Heap w (plusB I b n) bs rs := by
  have hnd := h.nodup
  simp only [blks, List.map_cons, List.cons_append, List.nodup_cons] at hnd
  have hlt := h.lt b (by simp [blks])
  refine (⟨fun p hp => h.bx p (List.mem_cons_of_mem _ hp), h.rw, hnd.2, h.inn⟩ : Heap w I bs rs).step (Stays.plus w I b n) (fun _ _ => rfl) (fun c hc o hi => ?_) fun c o hi => ?_
  · rcases hi with hi | ⟨rfl, _⟩
    · exact hi
    · exact absurd hc hnd.1
  · rcases hi with hi | ⟨rfl, _⟩
    · exact h.inn c o hi
    · exact hlt

/-- A slice that fills the beginning of the box. -/
theorem slice_frozen {w : World} {I : Cells} {b n c k : Nat} {cs : List V} {es : List (List V)} (h : BoxAt w I b (.c cs)) (hes : cs.take (n * k) = es.flatten) (hk : ∀ e ∈ es, e.length = k) (hn : es.length = n) (hc : n ≤ c) :
    V.rep w (plusB I b cs.length) (.list (some (.slice (some ⟨b, 0, none⟩) n c)) k es) (.slice (some ⟨b, 0, none⟩) n c) := by
  have ha := ats_take (box_frozen h) (n * k)
  rw [hes] at ha
  simp only [V.rep]
  refine ⟨fun y e => (Option.some.inj e), some ⟨b, 0, none⟩, c, by rw [hn], by omega, ?_⟩
  cases es with
  | nil => exact .inl rfl
  | cons e es => exact .inr ⟨b, 0, rfl, lies_of_ats hk ha⟩

mutual
/-- One value with the slice known as a list in some places. -/
inductive Fz (y : Value) (v0 : V) : V → V → Prop
  | same (v : V) : Fz y v0 v v
  | here : Fz y v0 (.lit y) v0
  | agg {l l' : List V} (h : FzL y v0 l l') : Fz y v0 (.agg l) (.agg l')
  | tup {l l' : List V} (h : FzL y v0 l l') : Fz y v0 (.tup l) (.tup l')
inductive FzL (y : Value) (v0 : V) : List V → List V → Prop
  | nil : FzL y v0 [] []
  | cons {v v' : V} {l l' : List V} (h : Fz y v0 v v') (r : FzL y v0 l l') : FzL y v0 (v :: l) (v' :: l')
end

mutual
theorem Fz.rep {y : Value} {v0 : V} {w : World} {I I' : Cells} (hs : Stays w I w I') (h0 : V.rep w I' v0 y) : ∀ {v v' : V} {x : Value}, Fz y v0 v v' → V.rep w I v x → V.rep w I' v' x
  | _, _, x, .same v, h => V.rep_mono hs v x h
  | _, _, x, .here, h => by simp only [V.rep] at h; subst h; exact h0
  | _, _, x, .agg hl, h => by
    simp only [V.rep] at h ⊢
    obtain ⟨xs, e, hr⟩ := h
    exact ⟨xs, e, FzL.reps hs h0 hl hr⟩
  | _, _, x, .tup hl, h => by
    simp only [V.rep] at h ⊢
    obtain ⟨xs, e, hr⟩ := h
    exact ⟨xs, e, FzL.reps hs h0 hl hr⟩
theorem FzL.reps {y : Value} {v0 : V} {w : World} {I I' : Cells} (hs : Stays w I w I') (h0 : V.rep w I' v0 y) : ∀ {l l' : List V} {xs : List Value}, FzL y v0 l l' → V.reps w I l xs → V.reps w I' l' xs
  | _, _, [], .nil, _ => by simp only [V.reps]
  | _, _, x :: xs, .cons h r, hr => by
    simp only [V.reps] at hr ⊢
    exact ⟨Fz.rep hs h0 h hr.1, FzL.reps hs h0 r hr.2⟩
  | _, _, _ :: _, .nil, hr => by simp [V.reps] at hr
  | _, _, [], .cons _ _, hr => by simp [V.reps] at hr
end
theorem FzL.refl {y : Value} {v0 : V} : ∀ l : List V, FzL y v0 l l
  | [] => .nil
  | v :: l => .cons (.same v) (FzL.refl l)

/-- What is handed back: a box of it frozen, its slice known as a list. -/
structure Frozen (b n c k : Nat) (cs : List V) (es : List (List V)) : Prop where
  take : cs.take (n * k) = es.flatten
  each : ∀ e ∈ es, e.length = k
  len : es.length = n
  cap : n ≤ c

theorem Ok.freeze {P : Program} {f : FuncId} {args : List V} {bs0 : List (Nat × B)} {Q Q' : V → List (Nat × B) → List Row → Prop} (h : Ok P f args bs0 Q)
    (hq : ∀ v bs rs, Q v bs rs → Q' v bs rs ∨ ∃ b n c k cs es bs' v', bs.Perm ((b, .c cs) :: bs') ∧ Frozen b n c k cs es ∧ Fz (.slice (some ⟨b, 0, none⟩) n c) (.list (some (.slice (some ⟨b, 0, none⟩) n c)) k es) v v' ∧ Q' v' bs' rs) : Ok P f args bs0 Q' := by
  intro w I xs hr hH
  refine (h w I xs hr hH).mono fun e w' ⟨x, v, bs', rs', I', he, hv, hk, hh, hn, hQ⟩ => ?_
  rcases hq v bs' rs' hQ with hQ' | ⟨b, n, c, k, cs, es, bs2, v', hp, hf, hz, hQ'⟩
  · exact ⟨x, v, bs', rs', I', he, hv, hk, hh, hn, hQ'⟩
  · have hh' := hh.perm hp
    have hbx := hh'.bx _ List.mem_cons_self
    have hs := slice_frozen hbx hf.take hf.each hf.len hf.cap
    have hst := Stays.plus w' I' b cs.length
    have hbm : b ∈ blks bs' rs' := by
      simp only [blks, List.mem_append]
      exact .inl (List.mem_map.2 ⟨_, hp.mem_iff.2 List.mem_cons_self, rfl⟩)
    refine ⟨x, v', bs2, rs', plusB I' b cs.length, he, Fz.rep hst hs hz hv, ⟨hk.os, hk.tape, hk.output, hk.size, hk.block, hk.stays.trans hst, fun c o hF hi => ?_, hk.drawn⟩, hh'.frozen, fun c hc => ?_, hQ'⟩
    · rcases hi with hi | ⟨rfl, _⟩
      · exact hk.old c o hF hi
      · exact absurd hF (hn _ hbm)
    · refine hn c ?_
      simp only [blks, List.mem_append] at hc ⊢
      refine hc.imp (fun hc => ?_) id
      obtain ⟨p, hp', rfl⟩ := List.mem_map.1 hc
      exact List.mem_map.2 ⟨p, hp.mem_iff.2 (List.mem_cons_of_mem _ hp'), rfl⟩

/-- A full box handed back, taken for an owned row. -/
theorem Ok.toRow {P : Program} {f : FuncId} {args : List V} {bs0 : List (Nat × B)} {Q Q' : V → List (Nat × B) → List Row → Prop} (h : Ok P f args bs0 Q)
    (hq : ∀ v bs rs, Q v bs rs → ∃ b n k e es bs', bs.Perm ((b, .c (es.flatten)) :: bs') ∧ (∀ e ∈ es, e.length = k) ∧ es.length = n ∧ 0 < k ∧ n ≤ maxLen ∧ v = .lit (.slice (some ⟨b, 0, none⟩) n n) ∧ Q' (.list (some (.slice (some ⟨b, 0, none⟩) n n)) k es) bs' (⟨.slice (some ⟨b, 0, none⟩) n n, k, e⟩ :: rs)) : Ok P f args bs0 Q' := by
  intro w I xs hr hH
  refine (h w I xs hr hH).mono fun e w' ⟨x, v, bs', rs', I', he, hv, hk, hh, hn, hQ⟩ => ?_
  obtain ⟨b, n, k, te, es, bs2, hp, hek, hel, hk0, hmx, hveq, hQ'⟩ := hq v bs' rs' hQ
  have hh' := hh.perm hp
  have hbx : BoxAt w' I' b (.c es.flatten) := hh'.bx _ List.mem_cons_self
  have hfl := flatten_len hek
  have hs := slice_frozen (n := n) (c := n) hbx (List.take_of_length_le (by rw [hfl, hel]; exact Nat.le_refl _)) hek hel (Nat.le_refl _)
  have hst := Stays.plus w' I' b es.flatten.length
  have hbm : b ∈ blks bs' rs' := by
    simp only [blks, List.mem_append]
    exact .inl (List.mem_map.2 ⟨_, hp.mem_iff.2 List.mem_cons_self, rfl⟩)
  rw [hveq] at hv
  simp only [V.rep] at hv
  have hfr := hh'.frozen (n := es.flatten.length)
  obtain ⟨arr, t1, q1, q2, q3, q4⟩ := hbx
  have hsz : arr.size = n * k := by have := reps_length q3; rw [hfl, hel] at this; simpa using this
  have hnd := hh'.nodup
  refine ⟨x, _, bs2, _, plusB I' b es.flatten.length, he, by rw [hv]; exact hs, ⟨hk.os, hk.tape, hk.output, hk.size, hk.block, hk.stays.trans hst, fun c o hF hi => ?_, hk.drawn⟩, ⟨hfr.bx, fun r hr' => ?_, ?_, hfr.inn⟩, fun c hc => ?_, hQ'⟩
  · rcases hi with hi | ⟨rfl, _⟩
    · exact hk.old c o hF hi
    · exact absurd hF (hn _ hbm)
  · rcases List.mem_cons.1 hr' with rfl | hr'
    · refine ⟨hk0, ⟨t1, arr.toList, by simp [slen, hsz], .inr ⟨b, n, arr, rfl, Nat.zero_le _, q1, Nat.le_refl _, hmx, hsz, List.take_of_length_le (by simp [slen, hsz])⟩⟩, fun g hg o ho hi => ?_⟩
      simp only [Value.ownBlock, Option.some.injEq] at hg
      subst hg
      rcases hi with hi | ⟨_, hi⟩
      · exact q4 o hi
      · rw [hfl, hel] at hi
        simp only [slen] at ho
        omega
    · exact hfr.rw r hr'
  · simp only [blks, List.map_cons, List.cons_append, List.filterMap_cons, Row.blk, Value.ownBlock] at hnd ⊢
    exact (List.perm_middle).nodup_iff.2 hnd
  · refine hn c ?_
    simp only [blks, List.mem_append, List.filterMap_cons, Row.blk, Value.ownBlock, List.mem_cons] at hc ⊢
    rcases hc with hc | rfl | hc
    · obtain ⟨p, hp', rfl⟩ := List.mem_map.1 hc
      exact .inl (List.mem_map.2 ⟨p, hp.mem_iff.2 (List.mem_cons_of_mem _ hp'), rfl⟩)
    · exact .inl (List.mem_map.2 ⟨_, hp.mem_iff.2 List.mem_cons_self, rfl⟩)
    · exact .inr hc

/-- A contract that takes a list, called with a slice of a box that is given up. -/
theorem Ok.consume {P : Program} {f : FuncId} {args args' : List V} {bs0 : List (Nat × B)} {Q : V → List (Nat × B) → List Row → Prop} {b n c k : Nat} {cs : List V} {es : List (List V)}
    (hf : Frozen b n c k cs es) (hz : FzL (.slice (some ⟨b, 0, none⟩) n c) (.list (some (.slice (some ⟨b, 0, none⟩) n c)) k es) args args') (h : Ok P f args' bs0 Q) : Ok P f args ((b, .c cs) :: bs0) Q := by
  intro w I xs hr hH
  have hbx := hH.bx _ List.mem_cons_self
  have hs := slice_frozen hbx hf.take hf.each hf.len hf.cap
  have hst := Stays.plus w I b cs.length
  have hnd := hH.nodup
  simp only [blks, List.map_cons, List.cons_append, List.nodup_cons] at hnd
  refine (h w (plusB I b cs.length) xs (FzL.reps hst hs hz hr) hH.frozen).mono fun e w' ⟨x, v, bs', rs', I', he, hv, hk, hh, hn, hQ⟩ => ?_
  refine ⟨x, v, bs', rs', I', he, hv, ⟨hk.os, hk.tape, hk.output, hk.size, fun c hc => hk.block c ⟨hc.1, fun hm => hc.2 (by simp [hm])⟩, hst.trans hk.stays, fun c o hF hi => ?_, hk.drawn⟩, hh, fun c hc hF => hn c hc ⟨hF.1, fun hm => hF.2 (by simp [hm])⟩, hQ⟩
  have := hk.old c o ⟨hF.1, fun hm => hF.2 (by simp [hm])⟩ hi
  rcases this with h1 | ⟨rfl, _⟩
  · exact h1
  · exact absurd (by simp) hF.2

end Go.VL

/- The V logic, part L: loops whose rounds make boxes that are given up at the round's end; counted loops. -/
namespace Go.VL
open Go.RowKit

/-- The newest boxes are given up. -/
def St.dropB (S : St) (k : Nat) : St := { S with boxes := S.boxes.drop k }
theorem dropB_σ (S : St) (k : Nat) : (S.dropB k).σ = S.σ := eqq rfl
theorem dropB_boxes (S : St) (k : Nat) : (S.dropB k).boxes = S.boxes.drop k := eqq rfl
theorem dropB_rows (S : St) (k : Nat) : (S.dropB k).rows = S.rows := eqq rfl

theorem Γ.dropB {C S a w I} (h : Γ C S a w I) (k : Nat) : Γ C (S.dropB k) a w I :=
  ⟨h.1, ⟨h.2.heap.sub (List.drop_sublist k _) (List.Sublist.refl _), fun b hb => h.2.mine b ((List.Sublist.append ((List.drop_sublist k _).map _) (List.Sublist.refl _)).subset hb), h.2.keeps, h.2.lo⟩⟩

theorem AWP.loopD {C c S Q} (J : Nat → St → Prop) (n : Nat) (h0 : ∃ k, J n (S.dropB k)) (round : ∀ n S, J n S → AWP C c S (athen (fun S' => ∃ m, m < n ∧ ∃ k, J m (S'.dropB k)) Q)) : AWP C (.loop c) S Q := by
  obtain ⟨k, h0⟩ := h0
  have main : AWP C (.loop c) (S.dropB k) Q := AWP.loop J n h0 fun n S hJ => by
    intro a w I hΓ
    refine wp_mono (round n S hJ a w I hΓ) fun e a' w' ⟨S', I', h1, h2⟩ => ?_
    cases e with
    | normal =>
      obtain ⟨m, hm, k, hk⟩ := h2
      exact ⟨S'.dropB k, I', h1.dropB k, m, hm, hk⟩
    | _ => exact ⟨S', I', h1, h2⟩
  exact fun a w I hΓ => main a w I (hΓ.dropB k)

theorem EX_loopD {C : Ctx} {c : Code} {k : List It} {S : St} {Q : Exit → St → Prop} (hm : C.P.follows .mixedOrders = true) (hk : okCode C.N C.M c = true) (J : Nat → St → Prop) (n : Nat) (h0 : ∃ d, J n (S.dropB d))
    (round : ∀ n S, J n S → EX C (.code c :: .stop (fun S' => ∃ m, m < n ∧ ∃ d, J m (S'.dropB d)) :: k) S Q) : AWP C (.loop c) S (contQ C k Q) :=
  AWP.loopD J n h0 fun n S hJ => cwp_spec hm c S _ hk (round n S hJ)

/-- A counted loop: rounds 0 .. N-1, then a way out. -/
theorem EX_for {C : Ctx} {c : Code} {k : List It} {S : St} {Q : Exit → St → Prop} (hm : C.P.follows .mixedOrders = true) (hk : okCode C.N C.M c = true) (N : Nat) (T : Nat → St → Prop) (h0 : ∃ d, T 0 (S.dropB d))
    (round : ∀ i S, i < N → T i S → EX C (.code c :: .stop (fun S' => ∃ d, T (i + 1) (S'.dropB d)) :: k) S Q) (last : ∀ S, T N S → EX C (.code c :: .stop (fun _ => False) :: k) S Q) : AWP C (.loop c) S (contQ C k Q) := by
  refine AWP.loopD (fun m S => ∃ i, i ≤ N ∧ m = N - i ∧ T i S) N (by obtain ⟨d, h⟩ := h0; exact ⟨d, 0, Nat.zero_le _, rfl, h⟩) fun m S ⟨i, hi, hmi, hT⟩ => ?_
  have mono : ∀ {K K' : St → Prop}, (∀ S, K S → K' S) → EX C (.code c :: .stop K :: k) S Q → AWP C c S (athen K' (contQ C k Q)) := fun hK h => by
    refine cwp_spec hm c S _ hk (cwp_mono (fun e S' h' => ?_) (show cwp C c S _ from h))
    cases e <;> first | exact hK _ h' | exact h'
  rcases Nat.lt_or_ge i N with h | h
  · exact mono (fun S' ⟨d, h'⟩ => ⟨N - (i + 1), by omega, d, i + 1, h, rfl, h'⟩) (round i S h hT)
  · obtain rfl : i = N := by omega
    exact mono (fun S' h' => h'.elim) (last S hT)

/-- A loop for as long as a count allows (the round says how it goes on). -/
theorem EX_while {C : Ctx} {c : Code} {k : List It} {S : St} {Q : Exit → St → Prop} {α : Type} (hm : C.P.follows .mixedOrders = true) (hk : okCode C.N C.M c = true) (μ : α → Nat) (T : α → St → Prop) (x : α) (h0 : ∃ d, T x (S.dropB d))
    (round : ∀ x S, T x S → EX C (.code c :: .stop (fun S' => ∃ y, μ y < μ x ∧ ∃ d, T y (S'.dropB d)) :: k) S Q) : AWP C (.loop c) S (contQ C k Q) := by
  refine AWP.loopD (fun m S => ∃ x, μ x = m ∧ T x S) (μ x) (by obtain ⟨d, h⟩ := h0; exact ⟨d, x, rfl, h⟩) fun m S ⟨x, hx, hT⟩ => ?_
  subst hx
  refine cwp_spec hm c S _ hk (cwp_mono (fun e S' h' => ?_) (show cwp C c S _ from round x S hT))
  cases e <;> first | exact h' | (obtain ⟨y, hy, d, h'⟩ := h'; exact ⟨μ y, hy, d, y, rfl, h'⟩)

/-- The newest boxes, and all rows but the newest, are given up. -/
def St.keep (S : St) (d r : Nat) : St := { S with boxes := S.boxes.drop d, rows := S.rows.take r }
theorem keep_σ (S : St) (d r : Nat) : (S.keep d r).σ = S.σ := eqq rfl
theorem keep_boxes (S : St) (d r : Nat) : (S.keep d r).boxes = S.boxes.drop d := eqq rfl
theorem keep_rows (S : St) (d r : Nat) : (S.keep d r).rows = S.rows.take r := eqq rfl
theorem Γ.keep {C S a w I} (h : Γ C S a w I) (d r : Nat) : Γ C (S.keep d r) a w I :=
  ⟨h.1, ⟨h.2.heap.sub (List.drop_sublist d _) (List.take_sublist r _), fun b hb => h.2.mine b ((List.Sublist.append ((List.drop_sublist d _).map _) ((List.take_sublist r _).filterMap _)).subset hb), h.2.keeps, h.2.lo⟩⟩
theorem AWP.loopR {C c S Q} (J : Nat → St → Prop) (n : Nat) (h0 : ∃ d r, J n (S.keep d r)) (round : ∀ n S, J n S → AWP C c S (athen (fun S' => ∃ m, m < n ∧ ∃ d r, J m (S'.keep d r)) Q)) : AWP C (.loop c) S Q := by
  obtain ⟨d, r, h0⟩ := h0
  have main : AWP C (.loop c) (S.keep d r) Q := AWP.loop J n h0 fun n S hJ => by
    intro a w I hΓ
    refine wp_mono (round n S hJ a w I hΓ) fun e a' w' ⟨S', I', h1, h2⟩ => ?_
    cases e with
    | normal =>
      obtain ⟨m, hm, d, r, hk⟩ := h2
      exact ⟨S'.keep d r, I', h1.keep d r, m, hm, hk⟩
    | _ => exact ⟨S', I', h1, h2⟩
  exact fun a w I hΓ => main a w I (hΓ.keep d r)
theorem EX_forR {C : Ctx} {c : Code} {k : List It} {S : St} {Q : Exit → St → Prop} (hm : C.P.follows .mixedOrders = true) (hk : okCode C.N C.M c = true) (N : Nat) (T : Nat → St → Prop) (h0 : ∃ d r, T 0 (S.keep d r))
    (round : ∀ i S, i < N → T i S → EX C (.code c :: .stop (fun S' => ∃ d r, T (i + 1) (S'.keep d r)) :: k) S Q) (last : ∀ S, T N S → EX C (.code c :: .stop (fun _ => False) :: k) S Q) : AWP C (.loop c) S (contQ C k Q) := by
  refine AWP.loopR (fun m S => ∃ i, i ≤ N ∧ m = N - i ∧ T i S) N (by obtain ⟨d, r, h⟩ := h0; exact ⟨d, r, 0, Nat.zero_le _, rfl, h⟩) fun m S ⟨i, hi, hmi, hT⟩ => ?_
  have mono : ∀ {K K' : St → Prop}, (∀ S, K S → K' S) → EX C (.code c :: .stop K :: k) S Q → AWP C c S (athen K' (contQ C k Q)) := fun hK h => by
    refine cwp_spec hm c S _ hk (cwp_mono (fun e S' h' => ?_) (show cwp C c S _ from h))
    cases e <;> first | exact hK _ h' | exact h'
  rcases Nat.lt_or_ge i N with h | h
  · exact mono (fun S' ⟨d, r, h'⟩ => ⟨N - (i + 1), by omega, d, r, i + 1, h, rfl, h'⟩) (round i S h hT)
  · obtain rfl : i = N := by omega
    exact mono (fun S' h' => h'.elim) (last S hT)
theorem EX_whileR {C : Ctx} {c : Code} {k : List It} {S : St} {Q : Exit → St → Prop} {α : Type} (hm : C.P.follows .mixedOrders = true) (hk : okCode C.N C.M c = true) (μ : α → Nat) (T : α → St → Prop) (x : α) (h0 : ∃ d r, T x (S.keep d r))
    (round : ∀ x S, T x S → EX C (.code c :: .stop (fun S' => ∃ y, μ y < μ x ∧ ∃ d r, T y (S'.keep d r)) :: k) S Q) : AWP C (.loop c) S (contQ C k Q) := by
  refine AWP.loopR (fun m S => ∃ x, μ x = m ∧ T x S) (μ x) (by obtain ⟨d, r, h⟩ := h0; exact ⟨d, r, x, rfl, h⟩) fun m S ⟨x, hx, hT⟩ => ?_
  subst hx
  refine cwp_spec hm c S _ hk (cwp_mono (fun e S' h' => ?_) (show cwp C c S _ from round x S hT))
  cases e <;> first | exact h' | (obtain ⟨y, hy, d, r, h'⟩ := h'; exact ⟨μ y, hy, d, r, y, rfl, h'⟩)

/-- A nil slice is taken for an owned row without elements. -/
def nilv : Value := .slice none 0 0
def St.nilRow (S : St) (i k : Nat) (e : TypeId) : St := { σ := upd S.σ (some i) (.list (some nilv) k []), boxes := S.boxes, rows := ⟨nilv, k, e⟩ :: S.rows }
theorem nilRow_same (S : St) (i k : Nat) (e : TypeId) : (S.nilRow i k e).σ i = .list (some nilv) k [] := by simp [St.nilRow, upd]
theorem nilRow_ne (S : St) (i j k : Nat) (e : TypeId) (h : i ≠ j) : (S.nilRow i k e).σ j = S.σ j := by simp [St.nilRow, upd, h]
theorem nilRow_boxes (S : St) (i k : Nat) (e : TypeId) : (S.nilRow i k e).boxes = S.boxes := eqq rfl
theorem nilRow_rows (S : St) (i k : Nat) (e : TypeId) : (S.nilRow i k e).rows = ⟨nilv, k, e⟩ :: S.rows := eqq rfl
theorem Γ.nilRow {C S a w I} (h : Γ C S a w I) {i k : Nat} (e : TypeId) (hi : S.σ i = .lit (.slice none 0 0)) (hk : 0 < k) : Γ C (S.nilRow i k e) a w I := by
  have g := h.2.addNil k hk e
  refine ⟨⟨h.1.size, h.1.defers, fun j => ?_⟩, ⟨g.heap, g.mine, g.keeps, g.lo⟩⟩
  by_cases hj : i = j
  · subst hj
    have := h.1.tmps i
    rw [hi] at this
    simp only [V.rep] at this
    rw [nilRow_same]
    simp only [V.rep]
    exact ⟨fun y hy => by cases hy; exact this, none, 0, this, Nat.le_refl _, .inl trivial⟩
  · rw [nilRow_ne _ _ _ _ _ hj]; exact h.1.tmps j
theorem AWP.nilRow {C c S Q} (i k : Nat) (e : TypeId) (hi : S.σ i = .lit (.slice none 0 0)) (hk : 0 < k) (h : AWP C c (S.nilRow i k e) Q) : AWP C c S Q :=
  fun a w I hΓ => h a w I (hΓ.nilRow e hi hk)

/-- A new box's number is none of the others. -/
def Dum : Prop := True
def Nb (b : Nat) : List (Nat × B) → Prop
  | [] => Dum
  | (x, _) :: r => (x ≠ b ∧ b ≠ x) ∧ Nb b r
theorem newb' {b : Nat} : ∀ {bs : List (Nat × B)}, b ∉ bs.map (·.1) → Nb b bs
  | [], _ => trivial
  | (x, _) :: r, h => by
    simp only [List.map_cons, List.mem_cons, not_or] at h
    exact ⟨⟨fun e => h.1 e.symm, h.1⟩, newb' h.2⟩
theorem newb {b : Nat} {bs : List (Nat × B)} {rs : List Row} (h : b ∉ blks bs rs) : Nb b bs := newb' fun hm => h (List.mem_append.2 (.inl hm))

theorem td1 {α : Type} (l : List α) (j : Nat) : List.take (l.length - j) (List.drop j l) = List.drop j l := List.take_of_length_le (by simp)
theorem td2 {α β : Type} (f : α → β) (l : List α) (j : Nat) : List.take (l.length - j) (List.drop j (List.map f l)) = List.drop j (List.map f l) := List.take_of_length_le (by simp)
theorem td3 {α β : Type} (f : α → β) (l : List α) (j : Nat) : List.take (l.length - j) (List.map f (List.drop j l)) = List.map f (List.drop j l) := List.take_of_length_le (by simp)
theorem mapTake {α β : Type} (f : α → β) (l : List α) (j : Nat) : List.take j (List.map f l) = List.map f (List.take j l) := List.map_take.symm
theorem mapDrop {α β : Type} (f : α → β) (l : List α) (j : Nat) : List.drop j (List.map f l) = List.map f (List.drop j l) := List.map_drop.symm
theorem natPos (n : Nat) : ((0 : Int) < ((n + 1 : Nat) : Int)) = True := eq_true (by omega)
theorem nat0 : ((0 : Nat) : Int) = 0 := eqq rfl
end Go.VL

/- The V logic, part S: its rules bundled for simp; printed by mkvs.py. -/
set_option linter.defProp false
namespace Go.VL
def ruleA0 := (And.intro (And.intro (And.intro (And.intro (And.intro @EX_end (And.intro @EX_seq @EX_skip)) (And.intro (And.intro @EX_label @EX_block) (And.intro @EX_blk @EX_scope))) (And.intro (And.intro (And.intro @EX_sc @EX_stop) (And.intro @EX_exit @EX_ret)) (And.intro (And.intro @EX_cond @EX_region) (And.intro @EX_draw @EX_loopleaf)))) (And.intro (And.intro (And.intro @XI_end (And.intro @XI_code @XI_ops)) (And.intro (And.intro @XI_stop @XI_sc) (And.intro @XI_same @XI_other))) (And.intro (And.intro (And.intro @EX_ops_nil @EX_plain) (And.intro @EX_guard @EX_dplain)) (And.intro (And.intro @EX_dguard @EX_gsoft) (And.intro @EX_gsoftg @EX_g_alloc))))) (And.intro (And.intro (And.intro (And.intro @EX_g_box (And.intro @EX_g_store @EX_g_append)) (And.intro (And.intro @EX_g_copy @EX_g_call) (And.intro @callR_func @EX_x_call))) (And.intro (And.intro (And.intro @EX_x_buildSlice @callX_func) (And.intro @EX_h_makeMap @EX_h_lookup)) (And.intro (And.intro @EX_h_mapUpdate @ST_makeMap) (And.intro @ST_lookup @ST_mapUpdate)))) (And.intro (And.intro (And.intro @ST_range (And.intro @ST_next @ST_entry)) (And.intro (And.intro @makeMapK_eq @makeMapK_eqr) (And.intro @lookK_eq @lookD_nil))) (And.intro (And.intro (And.intro @lookD_nil' @lookD_box) (And.intro @lookD_box' @updK_eq)) (And.intro (And.intro @updD_box @rangeK_eq) (And.intro @rangeD_box @nextK_it))))))
def ruleA1 := (And.intro (And.intro (And.intro (And.intro (And.intro @entryK_it (And.intro @ST_move @ST_assign)) (And.intro (And.intro @ST_pick @ST_load) (And.intro @ST_fieldAddr @ST_field))) (And.intro (And.intro (And.intro @ST_indexAddr @ST_index) (And.intro @ST_binOp @ST_unOp)) (And.intro (And.intro @ST_convert @ST_dconvert) (And.intro @ST_gconvert @ST_extract)))) (And.intro (And.intro (And.intro @ST_slice (And.intro @ST_build @ST_nil)) (And.intro (And.intro @ST_len @ST_max) (And.intro @ST_min @ST_call))) (And.intro (And.intro (And.intro @ST_dcall @ST_makeFunc) (And.intro @ST_alloc @ST_box)) (And.intro (And.intro @ST_store @ST_buildSlice) (And.intro @ST_dbuildSlice @ST_append))))) (And.intro (And.intro (And.intro (And.intro @ST_copy (And.intro @ST_makeSlice @ST_cap)) (And.intro (And.intro @EX_h_alloc @EX_h_box) (And.intro @EX_h_store @EX_h_append))) (And.intro (And.intro (And.intro @EX_h_makeSlice @EX_h_copy) (And.intro @loadK_eq @partK_eq)) (And.intro (And.intro @fieldAddrK_eq @fieldK_eq) (And.intro @idxAddrD_slice @idxAddrD_array)))) (And.intro (And.intro (And.intro @idxAddrK_eq (And.intro @idxD_string @idxD_array)) (And.intro (And.intro @idxK_eq @convD_int) (And.intro @convD_string @convK_eq))) (And.intro (And.intro (And.intro @convE_int @convE_string) (And.intro @convE_bytes @convB_eq)) (And.intro (And.intro @bytesD_nil @bytesD_box) (And.intro @bytesD_list @lenD_string))))))
def ruleA2 := (And.intro (And.intro (And.intro (And.intro @lenD_slice (And.intro @lenK_eq @sliceD_string)) (And.intro (And.intro @sliceD_slice @sliceD_slice3) (And.intro @sliceK_eq @buildK_eq))) (And.intro (And.intro (And.intro @funcK_eq @loadD_agg) (And.intro @loadD_one @partD_agg)) (And.intro (And.intro @partD_one @allocK_eq) (And.intro @boxK_eq @storeK_eq)))) (And.intro (And.intro (And.intro @buildSliceK_eq (And.intro @buildSliceD_eq @appendK_eq)) (And.intro (And.intro @appSK_eq @capK_eq) (And.intro @srcK_eq @appMK_eq))) (And.intro (And.intro (And.intro @appAK_eq @copyK_eq) (And.intro @AllV_eq @retQ_ret)) (And.intro (And.intro @retQ_normal @resV_nil) (And.intro @resV_tmp @resV_cell)))))
def ruleB0 := (And.intro (And.intro (And.intro (And.intro (And.intro @natPos (And.intro @keep_σ @keep_boxes)) (And.intro (And.intro @keep_rows @nilRow_same) (And.intro @nilRow_ne @nilRow_boxes))) (And.intro (And.intro (And.intro @nilRow_rows @onB_t) (And.intro @onB_f @nat0)) (And.intro (And.intro @dropB_σ @dropB_boxes) (And.intro @dropB_rows @onMapT_some)))) (And.intro (And.intro (And.intro @onM_some (And.intro @onI_some @onFind_some)) (And.intro (And.intro @onFind_none @mapOf_map) (And.intro @getM_same @getM_other))) (And.intro (And.intro (And.intro @getI_same @getI_other) (And.intro @setX_same @setX_other)) (And.intro (And.intro @valV_agg @valV_str) (And.intro @valV_int @keyV_lit))))) (And.intro (And.intro (And.intro (And.intro @keyV_agg (And.intro @keyS_agg @keyS_str)) (And.intro (And.intro @keyS_int @addB_σ) (And.intro @addB_boxes @addB_rows))) (And.intro (And.intro (And.intro @onMode_0 @onMode_1) (And.intro @onMode_2 @onMode_3)) (And.intro (And.intro @onMode_4 @modeOf_nil) (And.intro @modeOf_cons @put_eq)))) (And.intro (And.intro (And.intro @put_ne (And.intro @put_none @put_boxes)) (And.intro (And.intro @put_rows @addBox_σ) (And.intro @addBox_boxes @addBox_rows))) (And.intro (And.intro (And.intro @addRow_σ @addRow_boxes) (And.intro @addRow_rows @setBoxes_σ)) (And.intro (And.intro @setBoxes_boxes @setBoxes_rows) (And.intro @setRows_σ @setRows_boxes))))))
def ruleB1 := (And.intro (And.intro (And.intro (And.intro (And.intro @setRows_rows (And.intro @S0_σ @S0_boxes)) (And.intro (And.intro @S0_rows @ev_tmp) (And.intro @ev_const @ev_global))) (And.intro (And.intro (And.intro @ev_func @guardV_eq) (And.intro @getB_same @getB_other)) (And.intro (And.intro @setB_same @setB_other) (And.intro @soft_move @soft_assign)))) (And.intro (And.intro (And.intro @soft_pick (And.intro @soft_load @soft_fieldAddr)) (And.intro (And.intro @soft_field @soft_indexAddr) (And.intro @soft_index @soft_binOp))) (And.intro (And.intro (And.intro @soft_unOp @soft_convert) (And.intro @soft_extract @soft_slice)) (And.intro (And.intro @soft_build @soft_nil) (And.intro @soft_buildSlice @soft_makeFunc))))) (And.intro (And.intro (And.intro (And.intro @soft_callv (And.intro @soft_len @soft_cap)) (And.intro (And.intro @soft_max @soft_min) (And.intro @onSome_some @onInt_int))) (And.intro (And.intro (And.intro @onStr_str @onAgg_agg) (And.intro @onTup_tup @onHead_cons)) (And.intro (And.intro @onBool_bool @onGuard_tt) (And.intro @onGuard_ft @onGuard_tf)))) (And.intro (And.intro (And.intro @onGuard_ff (And.intro @onGuard_skip @onCond_t)) (And.intro (And.intro @onCond_f @onL_list) (And.intro @onL_nil @onS_list))) (And.intro (And.intro (And.intro @onS_nil @onS_box) (And.intro @capD_slice @bnd_none)) (And.intro (And.intro @bnd_int @shiftP_ref) (And.intro @shiftP_ptr @atP_ref))))))
def ruleB2 := (And.intro (And.intro (And.intro (And.intro (And.intro @atP_ptr (And.intro @posK_succ @binK_int)) (And.intro (And.intro @binK_str @binK_nil) (And.intro @binK_lnil @notNil_some))) (And.intro (And.intro (And.intro @notNil_none @nilQ_eq) (And.intro @binK_agg @EqK_eql')) (And.intro (And.intro @EqK_neq' @unK_lit) (And.intro @nilK_ptr @nilK_ref)))) (And.intro (And.intro (And.intro @nilK_func (And.intro @maxK_max @maxK_min)) (And.intro (And.intro @onPtr_ptr @sliceOf_slice) (And.intro @appD_nil @appD_own))) (And.intro (And.intro (And.intro @srcD_list @srcD_nil) (And.intro @srcD_box @srcD_str)) (And.intro (And.intro @appMD_box @appAD_nil) (And.intro @appAD_box @copyD_nil))))) (And.intro (And.intro (And.intro (And.intro @copyD_box (And.intro @makeSliceK_int @appendAny_own)) (And.intro (And.intro @appendAny_ownN @appendAny_ownS) (And.intro @appendAny_nil @appendAny_zeros))) (And.intro (And.intro (And.intro @appendAny_list @appendAny_slice) (And.intro @appendAny_str @If2_t)) (And.intro (And.intro @If2_f @takeRF_single) (And.intro @callE_func @callK_func)))) (And.intro (And.intro (And.intro @And2_true (And.intro @Int.le_refl @Nat.sub_zero)) (And.intro (And.intro @Nat.zero_le @Nat.le_refl) (And.intro @and_true @true_and))) (And.intro (And.intro (And.intro @and_self @false_and) (And.intro @and_false @or_false)) (And.intro (And.intro @false_or @or_true) (And.intro @true_or @not_true_eq_false))))))
def ruleB3 := (And.intro (And.intro (And.intro (And.intro @not_false_eq_true @Bool.false_eq_true) (And.intro @Nat.add_zero @Nat.zero_add)) (And.intro (And.intro @Bool.not_true @Bool.not_false) (And.intro @Bool.true_and @Bool.and_true))) (And.intro (And.intro (And.intro @Bool.or_false @Bool.false_or) (And.intro @Bool.and_false @Bool.false_and)) (And.intro (And.intro @Bool.or_true @Bool.true_or) (And.intro @Int.toNat_natCast @Int.natCast_nonneg))))
def ruleL := (And.intro (And.intro (And.intro (And.intro (And.intro @List.getD_cons_zero.{0} (And.intro @List.getD_cons_succ.{0} @List.getD_nil.{0})) (And.intro @List.getElem?_cons_zero.{0} (And.intro @List.getElem?_cons_succ.{0} @List.getElem?_nil.{0}))) (And.intro (And.intro @Option.bind_some.{0, 0} (And.intro @Option.bind_none.{0, 0} @Option.map_some.{0, 0})) (And.intro @Option.map_none.{0, 0} (And.intro @Option.isSome_some.{0} @Option.isSome_none.{0})))) (And.intro (And.intro (And.intro @Option.isNone_some.{0} (And.intro @Option.isNone_none.{0} @List.map_cons.{0, 0})) (And.intro @List.map_nil.{0, 0} (And.intro @List.take_succ_cons.{0} @List.take_zero.{0}))) (And.intro (And.intro @List.take_nil.{0} (And.intro @List.drop_succ_cons.{0} @List.drop_zero.{0})) (And.intro @List.drop_nil.{0} (And.intro @List.length_cons.{0} @List.length_nil.{0}))))) (And.intro (And.intro (And.intro (And.intro @List.cons_append.{0} (And.intro @List.nil_append.{0} @List.append_nil.{0})) (And.intro @List.filter_nil.{0} (And.intro @List.filter_cons.{0} @List.any_nil.{0}))) (And.intro (And.intro @List.any_cons.{0} (And.intro @List.all_nil.{0} @List.all_cons.{0})) (And.intro @List.toList_toArray.{0} (And.intro @eq_self.{1} @if_true.{1})))) (And.intro (And.intro (And.intro @if_true.{0} (And.intro @if_false.{1} @if_false.{0})) (And.intro @decide_true (And.intro @decide_false @decide_eq_true_eq))) (And.intro (And.intro @Option.some.injEq.{0} (And.intro @ne_eq.{1} @implies_true.{1})) (And.intro (And.intro @td1 @td2) (And.intro @td3 @onVal_eq))))))
end Go.VL

/- The V logic, part T: small words for the walks. -/
namespace Go.VL

/-- The newest rows given up. -/
theorem AWP.dropRows {C c S Q} (n : Nat) (h : AWP C c (S.setRows (S.rows.drop n)) Q) : AWP C c S Q := fun a w I hΓ =>
  h a w I ⟨hΓ.1, ⟨hΓ.2.heap.sub (List.Sublist.refl _) (List.drop_sublist n _), fun b hb => hΓ.2.mine b ((List.Sublist.append (List.Sublist.refl _) ((List.drop_sublist n _).filterMap _)).subset hb), hΓ.2.keeps, hΓ.2.lo⟩⟩

/-! Loops whose rounds may give up any boxes and rows. -/
def Lose (T : St → Prop) (S : St) : Prop := ∃ bs rs, bs.Sublist S.boxes ∧ rs.Sublist S.rows ∧ T ((S.setBoxes bs).setRows rs)
theorem Γ.lose {C S a w I} (h : Γ C S a w I) {bs : List (Nat × B)} {rs : List Row} (hb : bs.Sublist S.boxes) (hr : rs.Sublist S.rows) : Γ C ((S.setBoxes bs).setRows rs) a w I :=
  ⟨h.1, ⟨h.2.heap.sub hb hr, fun b hb' => h.2.mine b ((List.Sublist.append (hb.map _) (hr.filterMap _)).subset hb'), h.2.keeps, h.2.lo⟩⟩
theorem AWP.loopS {C c S Q} (J : Nat → St → Prop) (n : Nat) (h0 : Lose (J n) S) (round : ∀ n S, J n S → AWP C c S (athen (fun S' => ∃ m, m < n ∧ Lose (J m) S') Q)) : AWP C (.loop c) S Q := by
  obtain ⟨bs, rs, hb, hr, h0⟩ := h0
  have main : AWP C (.loop c) ((S.setBoxes bs).setRows rs) Q := AWP.loop J n h0 fun n S hJ => by
    intro a w I hΓ
    refine wp_mono (round n S hJ a w I hΓ) fun e a' w' ⟨S', I', h1, h2⟩ => ?_
    cases e with
    | normal =>
      obtain ⟨m, hm, bs, rs, hb, hr, hk⟩ := h2
      exact ⟨_, I', h1.lose hb hr, m, hm, hk⟩
    | _ => exact ⟨S', I', h1, h2⟩
  exact fun a w I hΓ => main a w I (hΓ.lose hb hr)
theorem EX_forS {C : Ctx} {c : Code} {k : List It} {S : St} {Q : Exit → St → Prop} (hm : C.P.follows .mixedOrders = true) (hk : okCode C.N C.M c = true) (N : Nat) (T : Nat → St → Prop) (h0 : Lose (T 0) S)
    (round : ∀ i S, i < N → T i S → EX C (.code c :: .stop (fun S' => Lose (T (i + 1)) S') :: k) S Q) (last : ∀ S, T N S → EX C (.code c :: .stop (fun _ => False) :: k) S Q) : AWP C (.loop c) S (contQ C k Q) := by
  refine AWP.loopS (fun m S => ∃ i, i ≤ N ∧ m = N - i ∧ T i S) N (by obtain ⟨bs, rs, hb, hr, h⟩ := h0; exact ⟨bs, rs, hb, hr, 0, Nat.zero_le _, rfl, h⟩) fun m S ⟨i, hi, hmi, hT⟩ => ?_
  have mono : ∀ {K K' : St → Prop}, (∀ S, K S → K' S) → EX C (.code c :: .stop K :: k) S Q → AWP C c S (athen K' (contQ C k Q)) := fun hK h => by
    refine cwp_spec hm c S _ hk (cwp_mono (fun e S' h' => ?_) (show cwp C c S _ from h))
    cases e <;> first | exact hK _ h' | exact h'
  rcases Nat.lt_or_ge i N with h | h
  · exact mono (fun S' ⟨bs, rs, hb, hr, h'⟩ => ⟨N - (i + 1), by omega, bs, rs, hb, hr, i + 1, h, rfl, h'⟩) (round i S h hT)
  · obtain rfl : i = N := by omega
    exact mono (fun S' h' => h'.elim) (last S hT)
theorem EX_whileS {C : Ctx} {c : Code} {k : List It} {S : St} {Q : Exit → St → Prop} {α : Type} (hm : C.P.follows .mixedOrders = true) (hk : okCode C.N C.M c = true) (μ : α → Nat) (T : α → St → Prop) (x : α) (h0 : Lose (T x) S)
    (round : ∀ x S, T x S → EX C (.code c :: .stop (fun S' => ∃ y, μ y < μ x ∧ Lose (T y) S') :: k) S Q) : AWP C (.loop c) S (contQ C k Q) := by
  refine AWP.loopS (fun m S => ∃ x, μ x = m ∧ T x S) (μ x) (by obtain ⟨bs, rs, hb, hr, h⟩ := h0; exact ⟨bs, rs, hb, hr, x, rfl, h⟩) fun m S ⟨x, hx, hT⟩ => ?_
  subst hx
  refine cwp_spec hm c S _ hk (cwp_mono (fun e S' h' => ?_) (show cwp C c S _ from round x S hT))
  cases e <;> first | exact h' | (obtain ⟨y, hy, bs, rs, hb, hr, h'⟩ := h'; exact ⟨μ y, hy, bs, rs, hb, hr, y, rfl, h'⟩)
end Go.VL

/- The V logic, part R: boxes and rows in any order; cells of boxes known less; slices whose length is nought. -/
namespace Go.VL
open Go.RowKit

theorem takeRF_at {x : Value} {k : Nat} {e : TypeId} {l2 : List Row} : ∀ {l1 : List Row} {K : Row → List Row → Prop} {p : Fix K}, K ⟨x, k, e⟩ (l1 ++ l2) → takeRF (l1 ++ ⟨x, k, e⟩ :: l2) x K p
  | [], _, _, h => .inl ⟨rfl, h⟩
  | r :: l1, K, p, h => .inr (takeRF_at (l1 := l1) (K := fun r' rs' => K r' (r :: rs')) (p := .mk) h)

theorem ΓW.permB {C S w I bs} (h : ΓW C S w I) (hp : S.boxes.Perm bs) : ΓW C (S.setBoxes bs) w I := by
  have hb : (blks S.boxes S.rows).Perm (blks bs S.rows) := List.Perm.append_right _ (hp.map _)
  exact ⟨⟨fun p hp' => h.heap.bx p (hp.mem_iff.2 hp'), h.heap.rw, hb.nodup_iff.1 h.heap.nodup, h.heap.inn⟩, fun b hb' => h.mine b (hb.mem_iff.2 hb'), h.keeps, h.lo⟩
theorem Γ.permP {C S a w I bs rs} (h : Γ C S a w I) (hb : S.boxes.Perm bs) (hr : S.rows.Perm rs) : Γ C ((S.setBoxes bs).setRows rs) a w I :=
  ⟨h.1, (h.2.permB hb).perm hr⟩

/-- Boxes and rows given up, the others in another order. -/
def LoseP (T : St → Prop) (S : St) : Prop := ∃ (bs : List (Nat × B)) (rs : List Row) (bs' : List (Nat × B)) (rs' : List Row), bs.Sublist S.boxes ∧ rs.Sublist S.rows ∧ bs.Perm bs' ∧ rs.Perm rs' ∧ T ((S.setBoxes bs').setRows rs')
theorem Γ.loseP {C S a w I} {T : St → Prop} (h : Γ C S a w I) (hT : LoseP T S) : ∃ S', Γ C S' a w I ∧ T S' := by
  obtain ⟨bs, rs, bs', rs', h1, h2, h3, h4, hT⟩ := hT
  exact ⟨_, (h.lose h1 h2).permP h3 h4, hT⟩
theorem AWP.loopP {C c S Q} (J : Nat → St → Prop) (n : Nat) (h0 : LoseP (J n) S) (round : ∀ n S, J n S → AWP C c S (athen (fun S' => ∃ m, m < n ∧ LoseP (J m) S') Q)) : AWP C (.loop c) S Q := by
  have main : ∀ S, J n S → AWP C (.loop c) S Q := fun S h0 => AWP.loop J n h0 fun n S hJ => by
    intro a w I hΓ
    refine wp_mono (round n S hJ a w I hΓ) fun e a' w' ⟨S', I', h1, h2⟩ => ?_
    cases e with
    | normal =>
      obtain ⟨m, hm, hk⟩ := h2
      obtain ⟨S2, g1, g2⟩ := h1.loseP hk
      exact ⟨S2, I', g1, m, hm, g2⟩
    | _ => exact ⟨S', I', h1, h2⟩
  intro a w I hΓ
  obtain ⟨S2, g1, g2⟩ := hΓ.loseP h0
  exact main S2 g2 a w I g1
theorem EX_forP {C : Ctx} {c : Code} {k : List It} {S : St} {Q : Exit → St → Prop} (hm : C.P.follows .mixedOrders = true) (hk : okCode C.N C.M c = true) (N : Nat) (T : Nat → St → Prop) (h0 : LoseP (T 0) S)
    (round : ∀ i S, i < N → T i S → EX C (.code c :: .stop (fun S' => LoseP (T (i + 1)) S') :: k) S Q) (last : ∀ S, T N S → EX C (.code c :: .stop (fun _ => False) :: k) S Q) : AWP C (.loop c) S (contQ C k Q) := by
  have lp : ∀ {A B : St → Prop} {S}, (∀ S, A S → B S) → LoseP A S → LoseP B S := fun hab ⟨bs, rs, bs', rs', h1, h2, h3, h4, h⟩ => ⟨bs, rs, bs', rs', h1, h2, h3, h4, hab _ h⟩
  refine AWP.loopP (fun m S => ∃ i, i ≤ N ∧ m = N - i ∧ T i S) N (lp (fun S h => ⟨0, Nat.zero_le _, rfl, h⟩) h0) fun m S ⟨i, hi, hmi, hT⟩ => ?_
  have mono : ∀ {K K' : St → Prop}, (∀ S, K S → K' S) → EX C (.code c :: .stop K :: k) S Q → AWP C c S (athen K' (contQ C k Q)) := fun hK h => by
    refine cwp_spec hm c S _ hk (cwp_mono (fun e S' h' => ?_) (show cwp C c S _ from h))
    cases e <;> first | exact hK _ h' | exact h'
  rcases Nat.lt_or_ge i N with h | h
  · exact mono (fun S' h' => ⟨N - (i + 1), by omega, lp (fun S h' => ⟨i + 1, h, rfl, h'⟩) h'⟩) (round i S h hT)
  · obtain rfl : i = N := by omega
    exact mono (fun S' h' => h'.elim) (last S hT)

/-! A nil slice in a cell of a box, taken for an owned row without elements. -/
theorem LeL.refl : ∀ l : List V, LeL l l
  | [] => .nil
  | v :: l => .cons (Le.refl v) (LeL.refl l)
theorem Le.nilOwn (k : Nat) : Le (.lit (.slice none 0 0)) (.list (some nilv) k []) := by
  intro w I x h
  simp only [V.rep] at h ⊢
  exact ⟨fun y hy => by cases hy; exact h, none, 0, h, Nat.le_refl _, .inl trivial⟩
theorem ΓW.leB {C S w I} (h : ΓW C S w I) {b : Nat} {cs cs' : List V} {l1 l2 : List (Nat × B)} (hb : S.boxes = l1 ++ (b, .c cs) :: l2) (hl : LeL cs cs') : ΓW C (S.setBoxes (l1 ++ (b, .c cs') :: l2)) w I := by
  have hk : blks (l1 ++ (b, .c cs') :: l2) S.rows = blks S.boxes S.rows := by rw [hb]; simp [blks]
  refine ⟨⟨fun p hp => ?_, h.heap.rw, ?_, h.heap.inn⟩, fun x hx => ?_, h.keeps, h.lo⟩
  · have hp' : p ∈ l1 ++ (b, .c cs') :: l2 := hp
    simp only [List.mem_append, List.mem_cons] at hp'
    have hin : ∀ q, (q ∈ l1 ∨ q = (b, .c cs) ∨ q ∈ l2) → q ∈ S.boxes := fun q hq => by rw [hb]; simpa using hq
    rcases hp' with hp' | rfl | hp'
    · exact h.heap.bx p (hin p (.inl hp'))
    · obtain ⟨arr, e, h1, h2, h3, h4⟩ := h.heap.bx (b, .c cs) (hin _ (.inr (.inl rfl)))
      exact ⟨arr, e, h1, h2, hl.reps h3, h4⟩
    · exact h.heap.bx p (hin p (.inr (.inr hp')))
  · show (blks (l1 ++ (b, .c cs') :: l2) S.rows).Nodup
    rw [hk]; exact h.heap.nodup
  · exact h.mine x (by have : x ∈ blks (l1 ++ (b, .c cs') :: l2) S.rows := hx
                       rwa [hk] at this)
theorem AWP.nilB {C c S Q} {b k : Nat} {e : TypeId} {cs cs' : List V} (l1 l2 : List (Nat × B)) (hb : S.boxes = l1 ++ (b, .c cs) :: l2) (hl : LeL cs cs') (hk : 0 < k) (h : AWP C c ((S.setBoxes (l1 ++ (b, .c cs') :: l2)).addRow ⟨nilv, k, e⟩) Q) : AWP C c S Q :=
  fun a w I hΓ => h a w I ⟨hΓ.1, (hΓ.2.leB hb hl).addNil k hk e⟩
/-- The same for code under way. -/
theorem EX_nilB {C : Ctx} {k0 : List It} {S : St} {Q : Exit → St → Prop} {code : Code} {b k : Nat} {e : TypeId} {cs cs' : List V} (l1 l2 : List (Nat × B)) (hb : S.boxes = l1 ++ (b, .c cs) :: l2) (hl : LeL cs cs') (hk : 0 < k)
    (h : AWP C (.loop code) ((S.setBoxes (l1 ++ (b, .c cs') :: l2)).addRow ⟨nilv, k, e⟩) (contQ C k0 Q)) : AWP C (.loop code) S (contQ C k0 Q) := AWP.nilB l1 l2 hb hl hk h

/-- A list without elements: nil or not. -/
theorem Ok.list0 {P : Program} {f : FuncId} {own : Option Value} {k : Nat} {as : List V} {bs : List (Nat × B)} {Q : V → List (Nat × B) → List Row → Prop} (h : ∀ c, Ok P f (.lit (.slice none 0 c) :: as) bs Q)
    (h' : ∀ p c, Ok P f (.list (some (.slice (some p) 0 c)) k [] :: as) bs Q) : Ok P f (.list own k [] :: as) bs Q := by
  intro w I xs hr hH
  cases xs with
  | nil => simp [V.reps] at hr
  | cons x xs =>
    simp only [V.reps, V.rep, List.length_nil] at hr
    obtain ⟨⟨_, a, c, rfl, _⟩, hr⟩ := hr
    cases a with
    | none => exact h c w I _ (by simp only [V.reps, V.rep]; exact ⟨trivial, hr⟩) hH
    | some p => exact h' p c w I _ (by simp only [V.reps, V.rep, List.length_nil]; exact ⟨⟨fun y hy => by cases hy; rfl, some p, c, rfl, Nat.zero_le _, .inl trivial⟩, hr⟩) hH
end Go.VL

/- Arrangements: the data, and how they stand as abstract values. -/
namespace Go.Ar
open Go.VL

abbrev Str := ByteArray
abbrev vint (n : Int) : V := .lit (.int .i64 n)
abbrev vbool (b : Bool) : V := .lit (.bool b)
abbrev vstr (s : Str) : V := .lit (.string s)
abbrev vints (xs : List Int) : V := .list none 1 (xs.map fun x => [vint x])
abbrev vstrs (xs : List Str) : V := .list none 1 (xs.map fun x => [vstr x])
abbrev ptr (b : Nat) : V := .lit (.pointer (some ⟨b, 0, none⟩))
abbrev nilS : V := .lit (.slice none 0 0)

structure FID where
  src : Str
  seq : Int
  deriving DecidableEq
structure Val where
  kind : Int
  n : Int
  s : Str
  deriving DecidableEq
structure Rw where
  id : FID
  table : Str
  key : Str
  event : Int
  fields : List Val
  no : Int
  tick : Int
  deriving DecidableEq
structure Dlt where
  row : Rw
  tick : Int
  n : Int
  deriving DecidableEq
structure Grp where
  key : Str
  ds : List Dlt
  deriving DecidableEq
structure Arr where
  since : Int
  groups : List Grp
  deriving DecidableEq

abbrev cFID (i : FID) : List V := [vstr i.src, vint i.seq]
abbrev cVal (v : Val) : List V := [vint v.kind, vint v.n, vstr v.s]
abbrev vVals (l : List Val) : V := .list none 3 (l.map cVal)
abbrev cRow (r : Rw) : List V := [vstr r.id.src, vint r.id.seq, vstr r.table, vstr r.key, vint r.event, vVals r.fields, vint r.no, vint r.tick]
abbrev cDlt (d : Dlt) : List V := [vstr d.row.id.src, vint d.row.id.seq, vstr d.row.table, vstr d.row.key, vint d.row.event, vVals d.row.fields, vint d.row.no, vint d.row.tick, vint d.tick, vint d.n]
abbrev vDlts (l : List Dlt) : V := .list none 10 (l.map cDlt)
abbrev vRows (l : List Rw) : V := .list none 8 (l.map cRow)
abbrev vFIDs (l : List FID) : V := .list none 2 (l.map cFID)
abbrev cGrp (g : Grp) : List V := [vstr g.key, vDlts g.ds]
abbrev vGrps (l : List Grp) : V := .list none 2 (l.map cGrp)
abbrev cArr (a : Arr) : List V := [vint a.since, vGrps a.groups]
abbrev vArr (a : Arr) : V := .agg (cArr a)

/-! ### Orders -/
def less (a b : Str) : Bool := Op.bytesLess a.data.toList b.data.toList
def cmpI (a b : Int) : Int := if a < b then -1 else if b < a then 1 else 0
def cmpS (a b : Str) : Int := if less a b = true then -1 else if (less a b || decide (a = b)) = true then 0 else 1
def orL : List Int → Int
  | [] => 0
  | x :: r => if x = 0 then orL r else x
def cmpID (a b : FID) : Int := if a = b then 0 else orL [cmpS a.src b.src, cmpI a.seq b.seq]
def cmpRow (a b : Rw) : Int := orL [cmpI a.event b.event, cmpID a.id b.id]
def cmpVal (a b : Val) : Int := orL [cmpI a.kind b.kind, cmpI a.n b.n, cmpS a.s b.s]
def cmpL : List Val → List Val → Int
  | [], [] => 0
  | [], _ :: _ => -1
  | _ :: _, [] => 1
  | a :: l, b :: m => if cmpVal a b = 0 then cmpL l m else cmpVal a b
def cmpFull (a b : Rw) : Int := orL [cmpRow a b, cmpI a.no b.no, cmpI a.tick b.tick, cmpS a.table b.table, cmpS a.key b.key, cmpL a.fields b.fields]
def cmpD (a b : Dlt) : Int := orL [cmpI a.tick b.tick, cmpFull a.row b.row]

theorem bytesLess_irrefl : ∀ l : List UInt8, Op.bytesLess l l = false
  | [] => rfl
  | x :: l => by simp [Op.bytesLess, bytesLess_irrefl l]
theorem less_irrefl (a : Str) : less a a = false := bytesLess_irrefl _
theorem less_ne {a b : Str} (h : less a b = true) : a ≠ b := fun e => by subst e; rw [less_irrefl] at h; cases h
theorem cmpS_lt {a b : Str} (h : less a b = true) : cmpS a b = -1 := by simp [cmpS, h]
theorem cmpS_refl (a : Str) : cmpS a a = 0 := by simp [cmpS, less_irrefl]
theorem cmpS_gt {a b : Str} (h : less a b = false) (hn : ¬ a = b) : cmpS a b = 1 := by simp [cmpS, h, hn]
theorem cmpS_eq0 {a b : Str} : cmpS a b = 0 ↔ a = b := by
  constructor
  · intro h
    cases hl : less a b
    · by_cases he : a = b
      · exact he
      · rw [cmpS_gt hl he] at h; cases h
    · rw [cmpS_lt hl] at h; cases h
  · rintro rfl; exact cmpS_refl a
theorem cmpI_eq0 {a b : Int} : cmpI a b = 0 ↔ a = b := by
  unfold cmpI
  constructor
  · intro h
    split at h
    · cases h
    · split at h
      · cases h
      · omega
  · rintro rfl; simp
theorem cmpID_eq0 {a b : FID} : cmpID a b = 0 ↔ a = b := by
  unfold cmpID
  constructor
  · intro h
    split at h
    · assumption
    · simp only [orL] at h
      cases a; cases b
      split at h
      · rename_i h1
        split at h
        · rename_i h2
          have q1 := cmpS_eq0.1 h1
          have q2 := cmpI_eq0.1 h2
          simp only [] at q1 q2
          rw [q1, q2]
        · contradiction
      · contradiction
  · rintro rfl; simp
theorem cmpID_src {a b : FID} (h : ¬ a.src = b.src) : cmpID a b = cmpS a.src b.src := by
  have : ¬ a = b := fun e => h (by rw [e])
  simp [cmpID, this, orL, cmpS_eq0, h]
theorem cmpID_seq {a b : FID} (h : a.src = b.src) : cmpID a b = cmpI a.seq b.seq := by
  by_cases e : a = b
  · subst e; simp [cmpID, cmpI]
  · have : ¬ a.seq = b.seq := fun e' => e (by cases a; cases b; simp_all)
    simp [cmpID, e, orL, h, cmpS_refl, cmpI_eq0, this]
/-! ### Small words for the walks -/
theorem wrap_id {n : Int} (h : -9223372036854775808 ≤ n) (h' : n < 9223372036854775808) : IntKind.i64.wrap n = n := IntWalk.i64_in n ⟨h, by omega⟩
theorem wrap_succ {i N : Nat} (h : i < N) (hN : N ≤ 9223372036854775807) : IntKind.i64.wrap ((i : Int) + 1) = ((i + 1 : Nat) : Int) := by
  rw [wrap_id (by omega) (by omega)]; rfl
theorem ret_done {v x : V} {bs : List (Nat × B)} {rs : List VL.Row} (h : v = x) : ∃ w bs' rs', Le v w ∧ bs'.Sublist bs ∧ rs'.Sublist rs ∧ w = x ∧ bs' = [] ∧ rs' = [] :=
  ⟨v, [], [], Le.refl _, List.nil_sublist _, List.nil_sublist _, h, rfl, rfl⟩
theorem ret_le {v x : V} {bs : List (Nat × B)} {rs : List VL.Row} (h : Le v x) : ∃ w bs' rs', Le v w ∧ bs'.Sublist bs ∧ rs'.Sublist rs ∧ w = x ∧ bs' = [] ∧ rs' = [] :=
  ⟨x, [], [], h, List.nil_sublist _, List.nil_sublist _, rfl, rfl, rfl⟩
theorem le_list {own : Option Value} {k : Nat} {es es' : List (List V)} (h : es = es') : Le (.list own k es) (.list none k es') := h ▸ Le.list _ _ _
theorem getD_map {α : Type} (f : α → List V) (l : List α) (i : Nat) (h : i < l.length) : (l.map f).getD i [] = f l[i] := by
  simp [List.getD, h]
theorem get_map {α : Type} (f : α → List V) (l : List α) (i : Nat) (h : i < l.length) : (l.map f)[i]? = some (f l[i]) := by
  simp [h]
end Go.Ar

/- Arrangements: contracts, part a: comparisons. -/
set_option linter.unusedSimpArgs false
set_option maxRecDepth 100000
namespace Go.Proofs.Ytopfanlkbepemaa
open Go.VL Go.Ar Go.Proofs.Ytopfanlkbepemaa

set_option linter.defProp false in
def tbAFa0 := (And.intro (And.intro (And.intro Ty.sz4 Ty.by4) (And.intro Ty.ag4 (And.intro Ty.zr4 Ty.un4))) (And.intro (And.intro Ty.sz9 Ty.by9) (And.intro Ty.ag9 (And.intro Ty.zr9 Ty.un9))))
set_option maxHeartbeats 400000 in
theorem nanS_ok (s : Str) : OkP Try.prog 69 [vstr s] (vbool false) := by
  refine Ok.of_ex Ty.mixed Try.func69 rfl (by simp [Try.ntmps69]) (by kernel_rfl) fun F w0 I0 => ?_
  simp only [↓ruleA0, ↓ruleA1, ↓ruleA2, ruleB0, ruleB1, ruleB2, ruleB3, ruleL, ↓retK, ncall, Todo_eq, packV, eqTB, litB, litV, fitL, fit, veqL, veq, sbin, sun, nilB, cellsV, oneB, okC, vals, fillV, partsE, Int.reduceLE, Int.reduceLT, Int.reduceToNat, Nat.reduceAdd, Nat.reduceEqDiff, Nat.reduceLT, Nat.reduceLeDiff, Nat.reduceMul, Nat.reduceSub, reduceCtorEq, tbAFa0, Try.results69]
  exact ret_done rfl
set_option linter.defProp false in
def tbAFa1 := (And.intro (And.intro (And.intro Ty.sz3 Ty.by3) (And.intro Ty.ag3 (And.intro Ty.zr3 Ty.un3))) (And.intro (And.intro Ty.sz4 Ty.by4) (And.intro Ty.ag4 (And.intro Ty.zr4 Ty.un4))))
theorem nanI_ok (s : Int) : OkP Try.prog 70 [vint s] (vbool false) := by
  refine Ok.of_ex Ty.mixed Try.func70 rfl (by simp [Try.ntmps70]) (by kernel_rfl) fun F w0 I0 => ?_
  simp only [↓ruleA0, ↓ruleA1, ↓ruleA2, ruleB0, ruleB1, ruleB2, ruleB3, ruleL, ↓retK, ncall, Todo_eq, packV, eqTB, litB, litV, fitL, fit, veqL, veq, sbin, sun, nilB, cellsV, oneB, okC, vals, fillV, partsE, Int.reduceLE, Int.reduceLT, Int.reduceToNat, Nat.reduceAdd, Nat.reduceEqDiff, Nat.reduceLT, Nat.reduceLeDiff, Nat.reduceMul, Nat.reduceSub, reduceCtorEq, tbAFa1, Try.results70]
  exact ret_done rfl
set_option linter.defProp false in
def tbAFa2 := (And.intro (And.intro (And.intro Ty.sz3 Ty.by3) (And.intro Ty.ag3 (And.intro Ty.zr3 Ty.un3))) (And.intro (And.intro Ty.sz4 (And.intro Ty.by4 Ty.ag4)) (And.intro Ty.zr4 (And.intro Ty.un4 Ty.cb70))))
theorem cmpI_ok (a b : Int) : OkP Try.prog 51 [vint a, vint b] (vint (cmpI a b)) := by
  refine Ok.of_ex Ty.mixed Try.func51 rfl (by simp [Try.ntmps51]) (by kernel_rfl) fun F w0 I0 => ?_
  simp only [↓ruleA0, ↓ruleA1, ↓ruleA2, ruleB0, ruleB1, ruleB2, ruleB3, ruleL, ↓retK, ncall, Todo_eq, packV, eqTB, litB, litV, fitL, fit, veqL, veq, sbin, sun, nilB, cellsV, oneB, okC, vals, fillV, partsE, Int.reduceLE, Int.reduceLT, Int.reduceToNat, Nat.reduceAdd, Nat.reduceEqDiff, Nat.reduceLT, Nat.reduceLeDiff, Nat.reduceMul, Nat.reduceSub, reduceCtorEq, tbAFa2, Try.results51]
  refine OkF_of _ (nanI_ok a) ?_
  simp only [↓ruleA0, ↓ruleA1, ↓ruleA2, ruleB0, ruleB1, ruleB2, ruleB3, ruleL, ↓retK, ncall, Todo_eq, packV, eqTB, litB, litV, fitL, fit, veqL, veq, sbin, sun, nilB, cellsV, oneB, okC, vals, fillV, partsE, Int.reduceLE, Int.reduceLT, Int.reduceToNat, Nat.reduceAdd, Nat.reduceEqDiff, Nat.reduceLT, Nat.reduceLeDiff, Nat.reduceMul, Nat.reduceSub, reduceCtorEq, tbAFa2, Try.results51]
  refine OkF_of _ (nanI_ok b) ?_
  by_cases h1 : a < b
  · simp only [↓ruleA0, ↓ruleA1, ↓ruleA2, ruleB0, ruleB1, ruleB2, ruleB3, ruleL, ↓retK, ncall, Todo_eq, packV, eqTB, litB, litV, fitL, fit, veqL, veq, sbin, sun, nilB, cellsV, oneB, okC, vals, fillV, partsE, Int.reduceLE, Int.reduceLT, Int.reduceToNat, Nat.reduceAdd, Nat.reduceEqDiff, Nat.reduceLT, Nat.reduceLeDiff, Nat.reduceMul, Nat.reduceSub, reduceCtorEq, tbAFa2, Try.results51, h1]
    exact ret_done (by simp [cmpI, h1])
  · by_cases h2 : b < a
    · simp only [↓ruleA0, ↓ruleA1, ↓ruleA2, ruleB0, ruleB1, ruleB2, ruleB3, ruleL, ↓retK, ncall, Todo_eq, packV, eqTB, litB, litV, fitL, fit, veqL, veq, sbin, sun, nilB, cellsV, oneB, okC, vals, fillV, partsE, Int.reduceLE, Int.reduceLT, Int.reduceToNat, Nat.reduceAdd, Nat.reduceEqDiff, Nat.reduceLT, Nat.reduceLeDiff, Nat.reduceMul, Nat.reduceSub, reduceCtorEq, tbAFa2, Try.results51, h1, h2]
      exact ret_done (by simp [cmpI, h1, h2])
    · simp only [↓ruleA0, ↓ruleA1, ↓ruleA2, ruleB0, ruleB1, ruleB2, ruleB3, ruleL, ↓retK, ncall, Todo_eq, packV, eqTB, litB, litV, fitL, fit, veqL, veq, sbin, sun, nilB, cellsV, oneB, okC, vals, fillV, partsE, Int.reduceLE, Int.reduceLT, Int.reduceToNat, Nat.reduceAdd, Nat.reduceEqDiff, Nat.reduceLT, Nat.reduceLeDiff, Nat.reduceMul, Nat.reduceSub, reduceCtorEq, tbAFa2, Try.results51, h1, h2]
      exact ret_done (by simp [cmpI, h1, h2])
set_option linter.defProp false in
def tbAFa3 := (And.intro (And.intro (And.intro (And.intro Ty.sz3 Ty.by3) (And.intro Ty.ag3 Ty.zr3)) (And.intro (And.intro Ty.un3 Ty.sz4) (And.intro Ty.by4 Ty.ag4))) (And.intro (And.intro (And.intro Ty.zr4 Ty.un4) (And.intro Ty.sz9 Ty.by9)) (And.intro (And.intro Ty.ag9 Ty.zr9) (And.intro Ty.un9 Ty.cb69))))
theorem cmpS_ok (a b : Str) : OkP Try.prog 50 [vstr a, vstr b] (vint (cmpS a b)) := by
  refine Ok.of_ex Ty.mixed Try.func50 rfl (by simp [Try.ntmps50]) (by kernel_rfl) fun F w0 I0 => ?_
  simp only [↓ruleA0, ↓ruleA1, ↓ruleA2, ruleB0, ruleB1, ruleB2, ruleB3, ruleL, ↓retK, ncall, Todo_eq, packV, eqTB, litB, litV, fitL, fit, veqL, veq, sbin, sun, nilB, cellsV, oneB, okC, vals, fillV, partsE, Int.reduceLE, Int.reduceLT, Int.reduceToNat, Nat.reduceAdd, Nat.reduceEqDiff, Nat.reduceLT, Nat.reduceLeDiff, Nat.reduceMul, Nat.reduceSub, reduceCtorEq, tbAFa3, Try.results50]
  refine OkF_of _ (nanS_ok a) ?_
  simp only [↓ruleA0, ↓ruleA1, ↓ruleA2, ruleB0, ruleB1, ruleB2, ruleB3, ruleL, ↓retK, ncall, Todo_eq, packV, eqTB, litB, litV, fitL, fit, veqL, veq, sbin, sun, nilB, cellsV, oneB, okC, vals, fillV, partsE, Int.reduceLE, Int.reduceLT, Int.reduceToNat, Nat.reduceAdd, Nat.reduceEqDiff, Nat.reduceLT, Nat.reduceLeDiff, Nat.reduceMul, Nat.reduceSub, reduceCtorEq, tbAFa3, Try.results50]
  refine OkF_of _ (nanS_ok b) ?_
  cases h1 : Op.bytesLess a.data.toList b.data.toList
  · by_cases h2 : a = b
    · subst h2
      simp only [↓ruleA0, ↓ruleA1, ↓ruleA2, ruleB0, ruleB1, ruleB2, ruleB3, ruleL, ↓retK, ncall, Todo_eq, packV, eqTB, litB, litV, fitL, fit, veqL, veq, sbin, sun, nilB, cellsV, oneB, okC, vals, fillV, partsE, Int.reduceLE, Int.reduceLT, Int.reduceToNat, Nat.reduceAdd, Nat.reduceEqDiff, Nat.reduceLT, Nat.reduceLeDiff, Nat.reduceMul, Nat.reduceSub, reduceCtorEq, tbAFa3, Try.results50, h1]
      exact ret_done (by simp [cmpS, less, h1])
    · simp only [↓ruleA0, ↓ruleA1, ↓ruleA2, ruleB0, ruleB1, ruleB2, ruleB3, ruleL, ↓retK, ncall, Todo_eq, packV, eqTB, litB, litV, fitL, fit, veqL, veq, sbin, sun, nilB, cellsV, oneB, okC, vals, fillV, partsE, Int.reduceLE, Int.reduceLT, Int.reduceToNat, Nat.reduceAdd, Nat.reduceEqDiff, Nat.reduceLT, Nat.reduceLeDiff, Nat.reduceMul, Nat.reduceSub, reduceCtorEq, tbAFa3, Try.results50, h1, h2]
      exact ret_done (by simp [cmpS, less, h1, h2])
  · simp only [↓ruleA0, ↓ruleA1, ↓ruleA2, ruleB0, ruleB1, ruleB2, ruleB3, ruleL, ↓retK, ncall, Todo_eq, packV, eqTB, litB, litV, fitL, fit, veqL, veq, sbin, sun, nilB, cellsV, oneB, okC, vals, fillV, partsE, Int.reduceLE, Int.reduceLT, Int.reduceToNat, Nat.reduceAdd, Nat.reduceEqDiff, Nat.reduceLT, Nat.reduceLeDiff, Nat.reduceMul, Nat.reduceSub, reduceCtorEq, tbAFa3, Try.results50, h1]
    exact ret_done (by simp [cmpS, less, h1])
set_option linter.defProp false in
def tbAFa4 := (And.intro (And.intro (And.intro Ty.sz3 (And.intro Ty.by3 Ty.ag3)) (And.intro (And.intro Ty.zr3 Ty.un3) (And.intro Ty.sz4 Ty.by4))) (And.intro (And.intro (And.intro Ty.ag4 Ty.zr4) (And.intro Ty.un4 Ty.sz98)) (And.intro (And.intro Ty.by98 Ty.ag98) (And.intro Ty.zr98 Ty.un98))))
theorem or_ok (l : List Int) (hl : l.length ≤ 9223372036854775807) : OkP Try.prog 49 [vints l] (vint (orL l)) := by
  refine Ok.of_ex Ty.mixed Try.func49 rfl (by simp [Try.ntmps49]) (by kernel_rfl) fun F w0 I0 => ?_
  simp only [↓ruleA0, ↓ruleA1, ↓ruleA2, ruleB0, ruleB1, ruleB2, ruleB3, ruleL, ↓retK, ncall, Todo_eq, packV, eqTB, litB, litV, fitL, fit, veqL, veq, sbin, sun, nilB, cellsV, oneB, okC, vals, fillV, partsE, Int.reduceLE, Int.reduceLT, Int.reduceToNat, Nat.reduceAdd, Nat.reduceEqDiff, Nat.reduceLT, Nat.reduceLeDiff, Nat.reduceMul, Nat.reduceSub, reduceCtorEq, tbAFa4, Try.results49, List.length_map]
  refine EX_for Ty.mixed (by kernel_rfl) l.length (fun i S => S.σ 6 = vints l ∧ S.σ 7 = vint l.length ∧ S.σ 8 = vint i ∧ S.σ 3 = vint 0 ∧ S.boxes = [] ∧ orL l = orL (l.drop i)) ⟨0, ?_⟩ (fun i S hi ⟨g6, g7, g8, g3, gb, ho⟩ => ?_) (fun S ⟨g6, g7, g8, g3, gb, ho⟩ => ?_)
  · simp only [↓ruleA0, ↓ruleA1, ↓ruleA2, ruleB0, ruleB1, ruleB2, ruleB3, ruleL, ↓retK, ncall, Todo_eq, packV, eqTB, litB, litV, fitL, fit, veqL, veq, sbin, sun, nilB, cellsV, oneB, okC, vals, fillV, partsE, Int.reduceLE, Int.reduceLT, Int.reduceToNat, Nat.reduceAdd, Nat.reduceEqDiff, Nat.reduceLT, Nat.reduceLeDiff, Nat.reduceMul, Nat.reduceSub, reduceCtorEq, tbAFa4, Try.results49]
  · have hd : l.drop i = l[i] :: l.drop (i + 1) := List.drop_eq_getElem_cons hi
    rw [hd, orL] at ho
    by_cases h0 : l[i] = 0
    · simp only [↓ruleA0, ↓ruleA1, ↓ruleA2, ruleB0, ruleB1, ruleB2, ruleB3, ruleL, ↓retK, ncall, Todo_eq, packV, eqTB, litB, litV, fitL, fit, veqL, veq, sbin, sun, nilB, cellsV, oneB, okC, vals, fillV, partsE, Int.reduceLE, Int.reduceLT, Int.reduceToNat, Nat.reduceAdd, Nat.reduceEqDiff, Nat.reduceLT, Nat.reduceLeDiff, Nat.reduceMul, Nat.reduceSub, reduceCtorEq, tbAFa4, Try.results49, g6, g7, g8, g3, gb, Int.ofNat_lt, hi, List.length_map, getD_map, h0, wrap_succ hi hl]
      refine ⟨0, ?_⟩
      simpa [h0] using ho
    · simp only [↓ruleA0, ↓ruleA1, ↓ruleA2, ruleB0, ruleB1, ruleB2, ruleB3, ruleL, ↓retK, ncall, Todo_eq, packV, eqTB, litB, litV, fitL, fit, veqL, veq, sbin, sun, nilB, cellsV, oneB, okC, vals, fillV, partsE, Int.reduceLE, Int.reduceLT, Int.reduceToNat, Nat.reduceAdd, Nat.reduceEqDiff, Nat.reduceLT, Nat.reduceLeDiff, Nat.reduceMul, Nat.reduceSub, reduceCtorEq, tbAFa4, Try.results49, g6, g7, g8, g3, gb, Int.ofNat_lt, hi, List.length_map, getD_map, h0]
      exact ret_done (by rw [ho, if_neg h0])
  · simp only [↓ruleA0, ↓ruleA1, ↓ruleA2, ruleB0, ruleB1, ruleB2, ruleB3, ruleL, ↓retK, ncall, Todo_eq, packV, eqTB, litB, litV, fitL, fit, veqL, veq, sbin, sun, nilB, cellsV, oneB, okC, vals, fillV, partsE, Int.reduceLE, Int.reduceLT, Int.reduceToNat, Nat.reduceAdd, Nat.reduceEqDiff, Nat.reduceLT, Nat.reduceLeDiff, Nat.reduceMul, Nat.reduceSub, reduceCtorEq, tbAFa4, Try.results49, g6, g7, g8, g3, gb, Int.ofNat_lt, Nat.lt_irrefl]
    exact ret_done (by rw [ho]; simp [orL])
end Go.Proofs.Ytopfanlkbepemaa

