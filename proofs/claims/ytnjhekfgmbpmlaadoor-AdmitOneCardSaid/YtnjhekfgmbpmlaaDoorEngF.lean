/- The engine, sixth part: small laws of numbers, data that came in. No conditions. -/
import Derived.Test.YtnjhekfgmbpmlaaDoorEngE
namespace Go.Proofs.YtnjhekfgmbpmlaaDoor.Eng
open Go Go.Proofs.YtnjhekfgmbpmlaaDoor.Mem
set_option linter.unusedSimpArgs false
set_option linter.unusedVariables false

/-- The condition of a look into a block that is known. -/
abbrev Qb (b : Nat) : Prop := b = b
/-- All that stood when the call began. -/
abbrev old0 (w : World) : Ch := old (fun _ => False) w
theorem sat_0 {w : World} {z : Nat} (h : z = w.heap.size) : Sat ⟨w, z, [old0 w]⟩ w := by subst h; exact sat_old w
/-- .. into what stood when the call began. -/
abbrev Old (w : World) (b k : Nat) (v : Value) : Prop := ∀ w', Ch.holds (old (fun _ => False) w) w' → w'.cell? ⟨b, k, none⟩ = some v
abbrev OldR (w : World) (b k : Nat) (arr : Array Value) : Prop := RowOf (old (fun _ => False) w) b k arr
theorem old_row {w : World} {b k : Nat} {l : List Value} (h : ∀ i v, l[i]? = some v → w.cell? ⟨b, k + i, none⟩ = some v) : OldR w b k l.toArray := fun w' hw i v hv => old_cell' (h i v (by simpa using hv)) w' hw
abbrev BT (p : Prop) [Decidable p] : Prop := Value.bool (decide p) = .bool true
abbrev BF (p : Prop) [Decidable p] : Prop := Value.bool (decide p) = .bool false
abbrev ET (x y : Int) : Prop := Value.bool (x == y) = .bool true
abbrev EF (x y : Int) : Prop := Value.bool (x == y) = .bool false
abbrev NT (x y : Int) : Prop := Value.bool (x != y) = .bool true
abbrev NF (x y : Int) : Prop := Value.bool (x != y) = .bool false
theorem bt {p : Prop} [Decidable p] (h : p) : BT p := congrArg Value.bool (decide_eq_true h)
theorem bf {p : Prop} [Decidable p] (h : ¬ p) : BF p := congrArg Value.bool (decide_eq_false h)
theorem et {x y : Int} (h : x = y) : ET x y := congrArg Value.bool (beq_iff_eq.2 h)
theorem ef {x y : Int} (h : ¬ x = y) : EF x y := congrArg Value.bool (beq_eq_false_iff_ne.2 h)
theorem nt {x y : Int} (h : ¬ x = y) : NT x y := congrArg Value.bool (bne_iff_ne.2 h)
theorem nf {x y : Int} (h : x = y) : NF x y := congrArg Value.bool (bne_eq_false_iff_eq.2 h)
/-- An index: a number, and it is there. -/
abbrev Ix (i : Int) (j n : Nat) : List Prop := [i = (j : Int), j < n, (none : Option Nat) = none]
abbrev oT : OC := ⟨.auto [], some (.bool true)⟩
abbrev oF : OC := ⟨.auto [], some (.bool false)⟩
abbrev ol (i : Nat) (arr : Array Value) : OC := ⟨.row i arr, none⟩
abbrev o0 : OC := ⟨.auto [], none⟩
abbrev oa (cs : List LC) : OC := ⟨.auto cs, none⟩
abbrev ov (v : Value) : OC := ⟨.auto [], some v⟩
abbrev oi (j : Nat) : OC := ⟨.idx j, none⟩

theorem wr_i64 {a b : Int} (h : a = b) (lo : -9223372036854775808 ≤ b) (hi : b ≤ 9223372036854775807) : IntKind.i64.wrap a = b := by
  subst h; simp only [IntKind.wrap, IntKind.bits, IntKind.signed]; simp; omega
abbrev Wr (x y : Int) : Prop := Value.int .i64 (IntKind.i64.wrap x) = Value.int .i64 y
theorem wrI {a b : Int} (h : a = b := by omega) (lo : -9223372036854775808 ≤ b := by omega) (hi : b ≤ 9223372036854775807 := by omega) : Value.int .i64 (IntKind.i64.wrap a) = Value.int .i64 b := congrArg (Value.int .i64) (wr_i64 h lo hi)
theorem wr_u32 {a b : Int} (h : a = b) (lo : 0 ≤ b) (hi : b ≤ 4294967295) : IntKind.u32.wrap a = b := by
  subst h; simp only [IntKind.wrap, IntKind.bits, IntKind.signed]; simp; omega
theorem wr_u8 {a b : Int} (h : a = b) (lo : 0 ≤ b) (hi : b ≤ 255) : IntKind.u8.wrap a = b := by
  subst h; simp only [IntKind.wrap, IntKind.bits, IntKind.signed]; simp; omega
theorem wr_u16 {a b : Int} (h : a = b) (lo : 0 ≤ b) (hi : b ≤ 65535) : IntKind.u16.wrap a = b := by
  subst h; simp only [IntKind.wrap, IntKind.bits, IntKind.signed]; simp; omega
theorem wr_u64 {a b : Int} (h : a = b) (lo : 0 ≤ b) (hi : b ≤ 18446744073709551615) : IntKind.u64.wrap a = b := by
  subst h; simp only [IntKind.wrap, IntKind.bits, IntKind.signed]; simp; omega
theorem wr_i32 {a b : Int} (h : a = b) (lo : -2147483648 ≤ b) (hi : b ≤ 2147483647) : IntKind.i32.wrap a = b := by
  subst h; simp only [IntKind.wrap, IntKind.bits, IntKind.signed]; simp; omega
theorem wr_div {x c z : Int} (hz : x / c = z) (h0 : 0 ≤ x) (h1 : x ≤ 9223372036854775807) (hc : 0 < c := by decide) : IntKind.i64.wrap (x.tdiv c) = z := by
  rw [Int.tdiv_eq_ediv_of_nonneg h0]
  have h2 : x / c ≤ x := Int.ediv_le_self _ h0
  have h3 : 0 ≤ x / c := Int.ediv_nonneg h0 (Int.le_of_lt hc)
  exact wr_i64 hz (by omega) (by omega)
theorem tmod_is {x c z : Int} (hz : x % c = z) (h0 : 0 ≤ x) : x.tmod c = z := by rw [Int.tmod_eq_emod_of_nonneg h0]; exact hz

def InK : IntKind → Int → Prop
  | .i64, x => -9223372036854775808 ≤ x ∧ x ≤ 9223372036854775807
  | .i32, x => -2147483648 ≤ x ∧ x ≤ 2147483647
  | .i16, x => -32768 ≤ x ∧ x ≤ 32767
  | .i8, x => -128 ≤ x ∧ x ≤ 127
  | .u64, x => 0 ≤ x ∧ x ≤ 18446744073709551615
  | .u32, x => 0 ≤ x ∧ x ≤ 4294967295
  | .u16, x => 0 ≤ x ∧ x ≤ 65535
  | .u8, x => 0 ≤ x ∧ x ≤ 255

/-- The thing at a place. -/
def gd {α : Type} [Inhabited α] (xs : List α) (k : Nat) : α := xs.getD k default
theorem gd_eq {α : Type} [Inhabited α] {xs : List α} {k : Nat} (h : k < xs.length) : gd xs k = xs[k] := by
  unfold gd; rw [List.getD_eq_getElem?_getD, List.getElem?_eq_getElem h]; rfl
/-- A slice of data: where it lies, its elements. -/
structure Sl (α : Type) where
  a : Option Addr
  cap : Nat
  xs : List α
  deriving Inhabited
def Sl.val {α : Type} (s : Sl α) : Value := .slice s.a s.xs.length s.cap

abbrev Any : Nat → Prop := fun _ => True
abbrev New (n : Nat) : Nat → Prop := fun b => n ≤ b
/-- All cells of the one that lie in blocks of F stand in the other. -/
def Ext (F : Nat → Prop) (W W' : World) : Prop := ∀ (b k : Nat) (v : Value), F b → W.cell? ⟨b, k, none⟩ = some v → W'.cell? ⟨b, k, none⟩ = some v
theorem Ext.refl (F : Nat → Prop) (W : World) : Ext F W W := fun _ _ _ _ h => h
theorem Ext.trans {F : Nat → Prop} {a b c : World} (h : Ext F a b) (k : Ext F b c) : Ext F a c := fun _ _ _ hf x => k _ _ _ hf (h _ _ _ hf x)
theorem cell_lt {W : World} {b k : Nat} {v : Value} (hv : W.cell? ⟨b, k, none⟩ = some v) : b < W.heap.size := by
  simp only [World.cell?] at hv
  split at hv
  · rename_i hb; exact (Array.getElem?_eq_some_iff.1 hb).1
  · cases hv
theorem cell_of {W W' : World} {b k : Nat} {v : Value} (h : W'.heap[b]? = W.heap[b]?) (hv : W.cell? ⟨b, k, none⟩ = some v) : W'.cell? ⟨b, k, none⟩ = some v := by
  rw [← hv]; simp only [World.cell?]; rw [h]
theorem Ext.of_keeps {F : Nat → Prop} {W W' : World} (h : Keeps (fun _ => False) W W') : Ext F W W' := fun b k v _ hv => cell_of (h.block b (cell_lt hv) id) hv
theorem Sat.ext {A : AW} {W w : World} (h : Sat A w) (hi : A.σ[0]? = some (old0 W)) : Ext Any W w := fun b k v _ hv => old_cell' hv w (h.at hi)
/-- What a call has made: the blocks from n on, as they were in ws. -/
def mid (n : Nat) (ws : World) : Ch := .inv (fun b => n ≤ b ∧ b < ws.heap.size) (fun w => ∀ b, n ≤ b → b < ws.heap.size → w.heap[b]? = ws.heap[b]?) false
theorem mid_stable (n : Nat) (ws : World) : (mid n ws).stable := fun w1 w2 h hw b h1 h2 => (h b ⟨h1, h2⟩).trans (hw b h1 h2)
theorem mid_cell {n : Nat} {ws : World} {b k : Nat} {v : Value} (hF : n ≤ b) (h : ws.cell? ⟨b, k, none⟩ = some v) : ∀ w', (mid n ws).holds w' → w'.cell? ⟨b, k, none⟩ = some v := fun w' hw => cell_of (hw b hF (cell_lt h)) h
theorem Sat.extM {A : AW} {n : Nat} {ws w : World} (h : Sat A w) (i : Nat) (hi : A.σ[i]? = some (mid n ws) := by rfl) : Ext (New n) ws w := fun b k v hF hv => mid_cell hF hv w (h.at hi)
/-- A call that turns nothing that was there, and what it has made. -/
theorem Sat.keepsM {A : AW} {w w' : World} (h : Sat A w) (hk : Keeps (fun _ => False) w w') : Sat { A with n := w'.heap.size, σ := A.σ ++ [mid A.n w'] } w' :=
  h.keeps1 hk _ (fun _ _ _ => rfl) (mid_stable _ _) (fun b hb => hb)

structure SlAt {α : Type} (cells : α → List Value) (sz : Nat) (F : Nat → Prop) (W : World) (s : Sl α) : Prop where
  len : s.xs.length ≤ 140737488351232
  le : s.xs.length ≤ s.cap
  cells : s.xs ≠ [] → ∃ b off, s.a = some ⟨b, off, none⟩ ∧ F b ∧ ∀ i (h : i < s.xs.length), ∀ k v, (cells s.xs[i])[k]? = some v → W.cell? ⟨b, off + offs sz i + k, none⟩ = some v
theorem SlAt.all {α : Type} [Inhabited α] {cells : α → List Value} {sz : Nat} {F : Nat → Prop} {W : World} {s : Sl α} (h : SlAt cells sz F W s) (hi : 0 < s.xs.length) :
    ∃ b off, s.a = some ⟨b, off, none⟩ ∧ F b ∧ ∀ i, i < s.xs.length → ∀ k v, (cells (gd s.xs i))[k]? = some v → W.cell? ⟨b, off + offs sz i + k, none⟩ = some v := by
  obtain ⟨b, off, ha, hF, hc⟩ := h.cells (fun e => by rw [e] at hi; simp at hi)
  exact ⟨b, off, ha, hF, fun i hi k v hv => hc i hi k v (by rw [← gd_eq hi]; exact hv)⟩
def SlOk {α : Type} [Inhabited α] (cells : α → List Value) (sz : Nat) (ok : (Nat → Prop) → World → α → Prop) (F : Nat → Prop) (W : World) (s : Sl α) : Prop := SlAt cells sz F W s ∧ ∀ i, i < s.xs.length → ok F W (gd s.xs i)
theorem slOk_ext {α : Type} [Inhabited α] {cells : α → List Value} {sz : Nat} {ok : (Nat → Prop) → World → α → Prop} {F F' : Nat → Prop} {W W' : World} {s : Sl α} (he : Ext F W W') (hF : ∀ b, F b → F' b) (h : SlOk cells sz ok F W s) (hok : ∀ x, ok F W x → ok F' W' x) : SlOk cells sz ok F' W' s := by
  refine ⟨⟨h.1.len, h.1.le, fun hne => ?_⟩, fun i hi => hok _ (h.2 i hi)⟩
  obtain ⟨b, off, ha, hb, hc⟩ := h.1.cells hne
  exact ⟨b, off, ha, hF b hb, fun i hi k v hv => he _ _ _ hb (hc i hi k v hv)⟩
theorem flat_at {α : Type} {cells : α → List Value} {sz : Nat} (hsz : ∀ x, (cells x).length = sz) : ∀ (xs : List α) (i : Nat) (h : i < xs.length) (k : Nat) (v : Value), (cells xs[i])[k]? = some v → (xs.flatMap cells)[offs sz i + k]? = some v
  | x :: xs, 0, _, k, v, hv => by
    have hk : k < (cells x).length := (List.getElem?_eq_some_iff.1 hv).1
    rw [offs_eq, Nat.zero_mul, Nat.zero_add, List.flatMap_cons, List.getElem?_append_left hk]; exact hv
  | x :: xs, i + 1, h, k, v, hv => by
    have ih := flat_at hsz xs i (by simpa using h) k v (by simpa using hv)
    rw [offs_eq] at ih ⊢
    rw [List.flatMap_cons, List.getElem?_append_right (by rw [hsz, Nat.succ_mul]; omega), hsz, show (i + 1) * sz + k - sz = i * sz + k from by rw [Nat.succ_mul]; omega]
    exact ih
/-- A row of the call's own reads as a slice of data. -/
theorem row_sl {α : Type} {cells : α → List Value} {sz base : Nat} {e : TypeId} {w : World} {a : Option Addr} {cap : Nat} {xs : List α} (hsz : ∀ x, (cells x).length = sz) (h : w.ownsRow base e sz (.slice a xs.length cap) xs.length (xs.flatMap cells)) (hl : xs.length ≤ 140737488351232) : SlAt cells sz (New base) w ⟨a, cap, xs⟩ := by
  rcases h.2 with ⟨h1, h2⟩ | ⟨g, cap', cur, h1, hb, hg, hnc, hcm, hcs, ht⟩
  · refine ⟨hl, by rw [h2]; exact Nat.zero_le _, fun hne => absurd (List.eq_nil_of_length_eq_zero h2) hne⟩
  · cases h1
    refine ⟨hl, hnc, fun hne => ⟨g, 0, rfl, hb, fun i hi k v hv => ?_⟩⟩
    have hf := flat_at hsz xs i hi k v hv
    rw [← ht, List.getElem?_take] at hf
    split at hf
    · simp only [World.cell?, hg, Nat.zero_add]; simpa using hf
    · cases hf
/-- A row that holds a list. -/
def rowL {α : Type} (base : Nat) (e : TypeId) (size : Nat) (cells : α → List Value) (v : Value) (xs : List α) : Ch := rowC base e size v xs.length (xs.flatMap cells)
theorem rowL_push {α : Type} (base : Nat) (e : TypeId) (size : Nat) (cells : α → List Value) (v : Value) (xs ys : List α) : rowC base e size v (xs.length + ys.length) (xs.flatMap cells ++ ys.flatMap cells) = rowL base e size cells v (xs ++ ys) := by
  simp [rowL]

section
variable {P : Program} {N : Nat} {env : Env} {ds : List Deferred} {A : AW} {ops : Array Oper} {l : List Oper} {s : List Kt} {Q : Exit → Act → World → Prop} {c : Code}
theorem l_rowL {α : Type} (base : Nat) (e : TypeId) (size : Nat) (cells : α → List Value) (h : Lg P N env ds { A with σ := A.σ ++ [rowL base e size cells (.slice none 0 0) []] } ops l s Q) : Lg P N env ds A ops l s Q := l_row base e size h
theorem g_rowL {α : Type} (base : Nat) (e : TypeId) (size : Nat) (cells : α → List Value) (h : G P N env ds { A with σ := A.σ ++ [rowL base e size cells (.slice none 0 0) []] } c s Q) : G P N env ds A c s Q := g_row base e size h

/-- The next operation appends things that lie in a block that is known whole (number j) to a row of the call's own (number i). -/
theorem l_push {α : Type} (base i j : Nat) (xs ys : List α) (cells : α → List Value) (e : TypeId) (sz by' : Nat) (v : Value) (b m cp : Nat) (cs : Array Value) (t : TypeId) (fr : Nat × Nat) (rw' : Bool) (d : Option Nat)
    (h63 : xs.length + ys.length ≤ 1000000000000) (hbase : base ≤ A.n)
    (K : ∀ a' cap' n', A.n ≤ n' → Lg P N (putE env d (.slice a' (xs ++ ys).length cap')) ds { A with n := n', σ := A.σ.set i (rowL base e sz cells (.slice a' (xs ++ ys).length cap') (xs ++ ys)) } ops (l.drop 1) s Q)
    (h : (match l with | o :: _ => (appA P N ops env o).map (fun x => (x, o.dst)) | [] => none) = some ((e, sz, by', v, ⟨b, 0, none⟩, m, cp), d) := by as_aux_lemma => kernel_rfl) (hi : A.σ[i]? = some (rowL base e sz cells v xs) := by rfl) (hj : A.σ[j]? = some (.blk b (.cells cs t fr) rw') := by rfl) (hn : cs.toList = ys.flatMap cells := by rfl) (hm : ys.length = m := by rfl)
    (hl : Nat.beq (ys.flatMap cells).length (ys.length * sz) = true := by as_aux_lemma => kernel_rfl) (h1 : (ys.flatMap cells).all Value.oneCell' = true := by as_aux_lemma => kernel_rfl) (hb : Nat.ble by' 140 = true := by as_aux_lemma => kernel_rfl) : Lg P N env ds A ops l s Q := by
  have hb' := Nat.le_of_ble_eq_true hb
  subst hm
  refine l_append base i j xs.length (xs.flatMap cells) (ys.flatMap cells) e sz by' v b ys.length cp cs t fr rw' d h hi hj hn hl h1 (by unfold maxLen; omega) (Nat.le_trans (Nat.mul_le_mul h63 hb') (by decide)) hbase (fun a' cap' n' hn' => ?_)
  have := K a' cap' n' hn'
  rw [← rowL_push, List.length_append] at this
  exact this
theorem mul_bd {a b : Int} (h1 : 0 ≤ a) (h2 : a ≤ 65536) (h3 : 0 ≤ b) (h4 : b ≤ 65536) : 0 ≤ a * b ∧ a * b ≤ 4294967296 :=
  ⟨Int.mul_nonneg h1 h3, Int.le_trans (Int.mul_le_mul h2 h4 h3 (by decide)) (by decide)⟩
theorem g_eq (env' : Env) (h : env = env') (K : G P N env' ds A c s Q) : G P N env ds A c s Q := by subst h; exact K
theorem l_eq (env' : Env) (h : env = env') (K : Lg P N env' ds A ops l s Q) : Lg P N env ds A ops l s Q := by subst h; exact K
theorem e_eqk {x : Exit} (keep : List Nat) (env' : Env) (h : keepE keep env = env') (K : E P N env' ds A x s Q) : E P N env ds A x s Q := fun a w hs => K a w (hs.sub (fun t v ht => look_keep (by rw [h]; exact ht)))
theorem w_one {σC : List Ch} {late fuel : Nat} {listed : List Bool} (i : Nat) (hr : Region.ready .any ops listed.toArray = [i]) (hf : Nat.ble 1 fuel = true) (h : WO P N env ds A ops σC late (fuel - 1) listed s Q i) : Wg P N env ds A ops σC late fuel listed s Q :=
  w_all [i] hr rfl hf (List.forall_mem_cons.2 ⟨h, fun _ h => absurd h List.not_mem_nil⟩)
/-- The same, where a region draws. -/
theorem wo_push {α : Type} {σC : List Ch} {late fuel : Nat} {listed : List Bool} {p : Nat} (base i j : Nat) (xs ys : List α) (cells : α → List Value) (e : TypeId) (sz by' : Nat) (v : Value) (b m cp : Nat) (cs : Array Value) (t : TypeId) (fr : Nat × Nat) (rw' : Bool) (d : Option Nat) (cix : List Nat)
    (h63 : xs.length + ys.length ≤ 1000000000000) (hbase : base ≤ A.n)
    (hC : Nat.beq p late = true ∨ (picks cix A.σ = some σC ∧ cix.contains i = false))
    (K : ∀ a' cap' n', A.n ≤ n' → Wg P N (putE env d (.slice a' (xs ++ ys).length cap')) ds { A with n := n', σ := A.σ.set i (rowL base e sz cells (.slice a' (xs ++ ys).length cap') (xs ++ ys)) } ops σC late fuel (listed.set p true) s Q)
    (hp : Nat.blt p listed.length = true := by rfl)
    (h : (match ops[p]? with | some o => (appA P N ops env o).map (fun x => (x, o.dst)) | none => none) = some ((e, sz, by', v, ⟨b, 0, none⟩, m, cp), d) := by as_aux_lemma => kernel_rfl) (hi : A.σ[i]? = some (rowL base e sz cells v xs) := by rfl) (hj : A.σ[j]? = some (.blk b (.cells cs t fr) rw') := by rfl) (hn : cs.toList = ys.flatMap cells := by rfl) (hm : ys.length = m := by rfl)
    (hl : Nat.beq (ys.flatMap cells).length (ys.length * sz) = true := by as_aux_lemma => kernel_rfl) (h1 : (ys.flatMap cells).all Value.oneCell' = true := by as_aux_lemma => kernel_rfl) (hb : Nat.ble by' 140 = true := by as_aux_lemma => kernel_rfl) : WO P N env ds A ops σC late fuel listed s Q p := by
  intro a w hst hcl
  have hlt : p < listed.length := by simpa using hp
  have hb' := Nat.le_of_ble_eq_true hb
  subst hm
  split at h
  · rename_i o ho
    simp only [Option.map_eq_some_iff] at h
    obtain ⟨y, hy, h⟩ := h
    simp only [Prod.mk.injEq] at h
    obtain ⟨rfl, rfl⟩ := h
    obtain ⟨hw, hd, a', cap', w', hr, hsz, hs'⟩ := appA_run (xs := xs.flatMap cells) (news := ys.flatMap cells) hy hst hi (Nat.eq_of_beq_eq_true hl) h1 (news_blk hst.mem hj hn) (by unfold maxLen; omega) (Nat.le_trans (Nat.mul_le_mul h63 hb') (by decide)) hbase
    rw [← List.length_append] at hr
    unfold wpOp
    simp only [ho]
    rw [if_pos hw]
    left
    unfold Oper.wp
    rw [hr]
    rw [rowL_push, ← List.length_append] at hs'
    have hcs : (listed.set p true).toArray.getD late false = false → Cs σC w' := by
      intro hl
      rcases hC with hC | ⟨hC, hci⟩
      · have := Nat.eq_of_beq_eq_true hC
        subst this
        simp [hlt] at hl
      · intro c hc
        obtain ⟨q, hq, hqs⟩ := picks_at hC c hc
        have hqi : i ≠ q := fun e1 => by subst e1; simp [hq] at hci
        refine hs'.all c (List.mem_of_getElem? (i := q) ?_)
        show (A.σ.set i _)[q]? = some c
        rw [List.getElem?_set_ne hqi]; exact hqs
    exact ⟨hcs, K a' cap' _ hsz _ _ (hst.put hs' _ hd _) hcl hcs⟩
  · cases h
theorem w_eq {σC : List Ch} {late fuel : Nat} {listed : List Bool} (env' : Env) (h : env = env') (K : Wg P N env' ds A ops σC late fuel listed s Q) : Wg P N env ds A ops σC late fuel listed s Q := by subst h; exact K
theorem w_keep {σC : List Ch} {late fuel : Nat} {listed : List Bool} (keep : List Nat) (env' : Env) (K : Wg P N env' ds A ops σC late fuel listed s Q) (h : keepE keep env = env' := by as_aux_lemma => kernel_rfl) : Wg P N env ds A ops σC late fuel listed s Q := fun a w hs => K a w (hs.sub (fun t v ht => look_keep (by rw [h]; exact ht)))
end
end Go.Proofs.YtnjhekfgmbpmlaaDoor.Eng
