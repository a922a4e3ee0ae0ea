/-
  Part of a machine over pure data and objects that is sound for the model: what it says of a Go function holds of every call of that function. Conditions: those in each theorem. It speaks of any program.
-/
import Derived.Test.YtjaignojekmfgaaBvRules
namespace Go.Bv
open Go.RowKit

def notT : V → Prop
  | .tup _ => False
  | _ => True
def notTs : List V → Prop
  | [] => True
  | x :: r => notT x ∧ notTs r

section
variable (a g : Bool) (n m off o id sz : Nat) (l : List V) (ds : List D) (x y z : V) (q q' : IntKind) (i j : Int) (h : Hp) (b c : Bool) (ar : Option (Nat × Bool × Nat)) (dd : D)
theorem e_loadO : loadO (some (a, n)) off (some (.cells l)) = partOf a n l off := rfl
theorem e_loadOO : loadOO (some (a, n)) off (some (.cells l)) = partOk a n l off := rfl
theorem e_loadR : loadV (some (a, n)) h (.ro ds) = partOf a n (ds.map .d) 0 := rfl
theorem e_loadRO : loadOk (some (a, n)) h (.ro ds) = partOk a n (ds.map .d) 0 := rfl
theorem e_partT : partOf true n l off = .agg ((l.drop off).take n) := rfl
theorem e_partF : partOf false n l off = (l[off]?).getD .any := rfl
theorem e_partOT : partOk true n l off = (off + n ≤ l.length) := rfl
theorem e_partOF : partOk false n l off = (off < l.length) := rfl
theorem e_faP : faddrV (some (o, a, n)) (.ptr id off) = .ptr id (off + o) := rfl
theorem e_faR : faddrV (some (o, a, n)) (.ro ds) = .ro (ds.drop o) := rfl
theorem e_faOP : faddrOk (some (o, a, n)) (.ptr id off) = True := rfl
theorem e_faOR : faddrOk (some (o, a, n)) (.ro ds) = True := rfl
theorem e_fld : fieldV (some (o, a, n)) (.agg l) = partOf a n l o := rfl
theorem e_fldO : fieldOk (some (o, a, n)) (.agg l) = partOk a n l o := rfl
theorem e_ia : iaddrV (some (g, sz)) ar (.d dd) (.d (.int q i)) = .ro (elt (V.elsD sz (.d dd)) i.toNat).cells := rfl
theorem e_iaOw : iaddrV (some (g, sz)) ar (.own n m ds) (.d (.int q i)) = .ro (elt (V.elsD sz (.own n m ds)) i.toNat).cells := rfl
theorem e_iaFu : iaddrV (some (g, sz)) ar (.full m ds) (.d (.int q i)) = .ro (elt (V.elsD sz (.full m ds)) i.toNat).cells := rfl
theorem e_iaW (el : Option (Bool × Nat)) : iaddrV el ar (.row id off n sz) (.d (.int q i)) = .ptr id (off + i.toNat * sz) := rfl
theorem e_iaWO : iaddrOk (some (g, m)) ar (.row id off n sz) (.d (.int q i)) = (m = sz ∧ 0 ≤ i ∧ i < (n : Int)) := rfl
theorem e_iaO : iaddrOk (some (g, sz)) ar (.d dd) (.d (.int q i)) = (isEls sz (.d dd) ∧ 0 ≤ i ∧ i < ((V.elsD sz (.d dd)).length : Int)) := rfl
theorem e_iaOwO : iaddrOk (some (g, sz)) ar (.own n m ds) (.d (.int q i)) = (isEls sz (.own n m ds) ∧ 0 ≤ i ∧ i < ((V.elsD sz (.own n m ds)).length : Int)) := rfl
theorem e_iaFuO : iaddrOk (some (g, sz)) ar (.full m ds) (.d (.int q i)) = (isEls sz (.full m ds) ∧ 0 ≤ i ∧ i < ((V.elsD sz (.full m ds)).length : Int)) := rfl
theorem e_iaP : iaddrV none (some (n, g, sz)) (.ptr id off) (.d (.int q i)) = .ptr id (off + i.toNat * sz) := rfl
theorem e_iaPO : iaddrOk none (some (n, g, sz)) (.ptr id off) (.d (.int q i)) = (0 ≤ i ∧ i < (n : Int)) := rfl
theorem e_iaR : iaddrV none (some (n, g, sz)) (.ro ds) (.d (.int q i)) = .ro (ds.drop (i.toNat * sz)) := rfl
theorem e_iaRO : iaddrOk none (some (n, g, sz)) (.ro ds) (.d (.int q i)) = (0 ≤ i ∧ i < (n : Int)) := rfl
theorem e_ix : indexV (some (n, g, sz)) (.agg l) (.d (.int q i)) = partOf g sz l (i.toNat * sz) := rfl
theorem e_ext : extV n (.tup l) = (l[n]?).getD .any := rfl
theorem e_extO : extOk n (.tup l) = (n < l.length) := rfl
theorem e_lenD : lenV (.d (.slice sz ds)) = .d (.int .i64 ds.length) := rfl
theorem e_lenO : lenV (.own n sz ds) = .d (.int .i64 ds.length) := rfl
theorem e_lenF : lenV (.full sz ds) = .d (.int .i64 ds.length) := rfl
theorem e_lenW : lenV (.row id off n sz) = .d (.int .i64 n) := rfl
theorem e_lenOW (e : TypeId) : lenOk (some (.slice e)) (.row id off n sz) = True := rfl
theorem e_lenN : lenV (.k (.slice none 0 0)) = .d (.int .i64 0) := rfl
theorem e_lenS (s : ByteArray) : lenV (.d (.str s)) = .d (.int .i64 s.size) := rfl
theorem e_lenOD (e : TypeId) : lenOk (some (.slice e)) (.d (.slice sz ds)) = True := rfl
theorem e_lenOO (e : TypeId) : lenOk (some (.slice e)) (.own n sz ds) = True := rfl
theorem e_lenOF (e : TypeId) : lenOk (some (.slice e)) (.full sz ds) = True := rfl
theorem e_lenON (e : TypeId) : lenOk (some (.slice e)) (.k (.slice none 0 0)) = True := rfl
theorem e_lenOS (s : ByteArray) : lenOk (some .string) (.d (.str s)) = True := rfl
theorem e_bin (op : BinOp) : binV op (.d (.int q i)) (.d (.int q' j)) = intV op q i j := rfl
theorem e_binO (et : Option (List TypeDesc)) (ud : Option TypeDesc) (op : BinOp) : binOk et ud op (.d (.int q i)) (.d (.int q' j)) = (sameK op q q' ∧ intOk op j) := rfl
theorem e_binA (op : BinOp) (m : List V) : binV op (.agg l) (.agg m) = aggV op (eqL l m) := rfl
theorem e_binAO (ts : List TypeDesc) (ud : Option TypeDesc) (op : BinOp) (m : List V) : binOk (some ts) ud op (.agg l) (.agg m) = (isEq op ∧ eqLOk ts l m) := rfl
theorem e_aggE : aggV .eql b = .d (.bool b) := rfl
theorem e_aggN : aggV .neq b = .d (.bool (!b)) := rfl
theorem e_isE : isEq .eql = True := rfl
theorem e_isN : isEq .neq = True := rfl
theorem e_eqL1 (m : List V) : eqL (x :: l) (y :: m) = (eqCell x y && eqL l m) := rfl
theorem e_eqL0 : eqL [] [] = true := rfl
theorem e_eqLO1 (t : TypeDesc) (ts : List TypeDesc) (m : List V) : eqLOk (t :: ts) (x :: l) (y :: m) = (eqCellOk t x y ∧ eqLOk ts l m) := rfl
theorem e_eqLO0 : eqLOk [] [] [] = True := rfl
theorem e_eqCI : eqCell (.d (.int q i)) (.d (.int q' j)) = (i == j) := rfl
theorem e_eqCB : eqCell (.d (.bool b)) (.d (.bool c)) = (b == c) := rfl
theorem e_eqCS (s s' : ByteArray) : eqCell (.d (.str s)) (.d (.str s')) = (s == s') := rfl
theorem e_eqCIO (k : IntKind) : eqCellOk (.int k) (.d (.int q i)) (.d (.int q j)) = True := by simp [eqCellOk]
theorem e_eqCBO : eqCellOk .bool (.d (.bool b)) (.d (.bool c)) = True := rfl
theorem e_eqCSO (s s' : ByteArray) : eqCellOk .string (.d (.str s)) (.d (.str s')) = True := rfl
theorem e_nvD : isNilV (.d dd) = false := rfl
theorem e_nvA : isNilV (.agg l) = false := rfl
theorem e_nvPn : isNilV (.k (.pointer none)) = false := rfl
theorem e_nvMn : isNilV (.k (.map none)) = false := rfl
theorem e_nvO : isNilV (.own n sz ds) = false := rfl
theorem e_nvF : isNilV (.full sz ds) = false := rfl
theorem e_nvW : isNilV (.row id off n sz) = false := rfl
theorem e_noW : nilOk (.row id off n sz) = True := rfl
theorem e_nmW : nilMay (.row id off n sz) = False := rfl
theorem e_kPn : V.ofK (.pointer none) = .k (.pointer none) := rfl
theorem e_kMn : V.ofK (.map none) = .k (.map none) := rfl
theorem e_binB (op : BinOp) : binV op (.d (.bool b)) (.d (.bool c)) = aggV op (b == c) := rfl
theorem e_binBO (et : Option (List TypeDesc)) (op : BinOp) : binOk et (some .bool) op (.d (.bool b)) (.d (.bool c)) = isEq op := by simp [binOk, isBoolT]
theorem e_binS (op : BinOp) (s s' : ByteArray) : binV op (.d (.str s)) (.d (.str s')) = aggV op (s.toList == s'.toList) := rfl
theorem e_binSO (et : Option (List TypeDesc)) (ud : Option TypeDesc) (op : BinOp) (s s' : ByteArray) : binOk et ud op (.d (.str s)) (.d (.str s')) = isEq op := rfl
theorem e_binP (op : BinOp) : binV op (.ptr id off) (.k (.pointer none)) = aggV op false := rfl
theorem e_binPO (et : Option (List TypeDesc)) (t : TypeId) (op : BinOp) : binOk et (some (.pointer t)) op (.ptr id off) (.k (.pointer none)) = isEq op := by simp [binOk, isPtrT]
theorem e_binR (op : BinOp) : binV op (.ro ds) (.k (.pointer none)) = aggV op false := rfl
theorem e_binRO (et : Option (List TypeDesc)) (t : TypeId) (op : BinOp) : binOk et (some (.pointer t)) op (.ro ds) (.k (.pointer none)) = isEq op := by simp [binOk, isPtrT]
theorem e_binN (op : BinOp) : binV op (.k (.pointer none)) (.k (.pointer none)) = aggV op true := rfl
theorem e_binNO (et : Option (List TypeDesc)) (t : TypeId) (op : BinOp) : binOk et (some (.pointer t)) op (.k (.pointer none)) (.k (.pointer none)) = isEq op := by simp [binOk, isPtrT]
theorem e_binM (op : BinOp) : binV op (.mp id) (.k (.map none)) = aggV op false := rfl
theorem e_binMO (et : Option (List TypeDesc)) (t t' : TypeId) (op : BinOp) : binOk et (some (.map t t')) op (.mp id) (.k (.map none)) = isEq op := by simp [binOk, isMapT]
theorem e_binMn (op : BinOp) : binV op (.k (.map none)) (.k (.map none)) = aggV op true := rfl
theorem e_binMnO (et : Option (List TypeDesc)) (t t' : TypeId) (op : BinOp) : binOk et (some (.map t t')) op (.k (.map none)) (.k (.map none)) = isEq op := by simp [binOk, isMapT]
theorem e_nckP : nilCkV (.ptr id off) = .ptr id off := rfl
theorem e_nckPO : nilCkOk (.ptr id off) = True := rfl
theorem e_nckR : nilCkV (.ro ds) = .ro ds := rfl
theorem e_nckRO : nilCkOk (.ro ds) = True := rfl
theorem e_min : minV (.d (.int q i)) (.d (.int q' j)) = .d (.int q (if j < i then j else i)) := rfl
theorem e_max : maxV (.d (.int q i)) (.d (.int q' j)) = .d (.int q (if i < j then j else i)) := rfl
theorem e_twI : twoInts (.d (.int q i)) (.d (.int q' j)) = True := rfl
theorem e_mk (P : Program) (t : TypeId) : mkOk P t (.d (.int q i)) (.d (.int q' j)) = (((rowOf P t).isSome = true ∧ (elZ P t).isSome = true) ∧ 0 ≤ i ∧ i ≤ j ∧ j.toNat * (rowD P t).2 ≤ 140737488355328 ∧ j.toNat ≤ maxLen) := rfl
theorem e_nat : natOf (.d (.int q i)) = i.toNat := rfl
theorem e_elZD (P : Program) (t : TypeId) : elZD P t = (elZ P t).getD [] := rfl
theorem e_zr1 : zrow n [x] = List.replicate n x := rfl
theorem e_cpO (P : Program) (t : TypeId) : copyOk P t h (.row id off n sz) y = (((rowOf P t).isSome = true ∧ sz = (rowD P t).1) ∧ isEls sz y ∧ fitsO off (n * sz) (h.get id)) := rfl
theorem e_fit : fitsO off n (some (.cells l)) = (off + n ≤ l.length) := rfl
theorem e_cpH : copyH h (.row id off n sz) y = copyO h id off n (y.elsD sz) (h.get id) := rfl
theorem e_cpHO : copyO h id off n ds (some (.cells l)) = (id, .cells (setAt l off (((ds.take (min ds.length n)).flatMap D.cells).map .d))) :: h := rfl
theorem e_cpN : copyN (.row id off n sz) y = .d (.int .i64 (min (y.elsD sz).length n : Nat)) := rfl
theorem e_callS (sl : List (Nat × V)) (ids : List Nat) (pre post : List Ob) (d : Option Nat) : callS ⟨sl, h, n⟩ ids pre post d x = St.put ⟨sl, hpNew (sgm ids n) 0 post ++ h, n + (post.length - pre.length)⟩ d (ren (sgm ids n) x) := rfl
theorem e_hn0 (σ : Nat → Nat) (k : Nat) : hpNew σ k [] = [] := rfl
theorem e_hn1 (σ : Nat → Nat) (k : Nat) (ob : Ob) (r : List Ob) : hpNew σ k (ob :: r) = (σ k, renO σ ob) :: hpNew σ (k + 1) r := rfl
theorem e_ho0 (k : Nat) : hpOf k [] = [] := rfl
theorem e_ho1 (k : Nat) (ob : Ob) (r : List Ob) : hpOf k (ob :: r) = (k, ob) :: hpOf (k + 1) r := rfl
theorem e_sg0 (fb k : Nat) : sgm [] fb k = fb + k := rfl
theorem e_sg1 (fb : Nat) (r : List Nat) : sgm (n :: r) fb 0 = n := rfl
theorem e_sg2 (fb k : Nat) (r : List Nat) : sgm (n :: r) fb (k + 1) = sgm r fb k := by
  simp only [sgm, List.getElem?_cons_succ, List.length_cons]
  cases r[k]? with
  | none => simp only; omega
  | some _ => rfl
theorem e_rh0 (k : Nat) : rh [] k = 0 := by simp [rh]
theorem e_rh1 (r : List Nat) : rh (n :: r) 0 = n := rfl
theorem e_rh2 (k : Nat) (r : List Nat) : rh (n :: r) (k + 1) = rh r k := rfl
theorem e_roC (σ : Nat → Nat) : renO σ (.cells l) = .cells (l.map (ren1 σ)) := rfl
theorem e_roT (σ : Nat → Nat) : renO σ (.tip n) = .tip n := rfl
theorem e_roD (σ : Nat → Nat) : renO σ .dead = .dead := rfl
theorem e_roM (σ : Nat → Nat) (es : List (D × V)) : renO σ (.map es) = .map (es.map fun e => (e.1, ren0 σ e.2)) := rfl
theorem e_po0 (σ : Nat → Nat) (fb k : Nat) : preOk h σ n fb k [] [] = True := rfl
theorem e_po1 (σ : Nat → Nat) (fb k a : Nat) (r : List Nat) (ob : Ob) (os : List Ob) : preOk h σ n fb k (a :: r) (ob :: os) = ((a < fb ∧ a < k ∧ obLe (h.get a) (renO σ ob) ∧ okO n ob ∧ notDead ob) ∧ preOk h σ n fb k r os) := rfl
theorem e_qo0 (σ : Nat → Nat) (k : Nat) : postOk h σ n k [] [] = True := rfl
theorem e_qo1 (σ : Nat → Nat) (k a : Nat) (r : List Nat) (ob : Ob) (os : List Ob) : postOk h σ n k (a :: r) (ob :: os) = ((a < k ∧ obLe (h.get a) (renO σ ob) ∧ okO n ob) ∧ postOk h σ n k r os) := rfl
theorem e_ndC : notDead (.cells l) = True := rfl
theorem e_ndT : notDead (.tip n) = True := rfl
theorem e_ndM (es : List (D × V)) : notDead (.map es) = True := rfl
theorem e_tpC : notTip (.cells l) = True := rfl
theorem e_tpM (es : List (D × V)) : notTip (.map es) = True := rfl
theorem e_tpD : notTip .dead = True := rfl
theorem e_fo (S : Nat) (os : List Ob) : freshOk S n os = (os.length - n ≤ S ∧ ∀ o ∈ os.drop n, notTip o) := rfl
theorem s_obD (o : Option Ob) : obLe o .dead = True := by cases o with | none => rfl | some o => cases o <;> rfl
theorem s_obM (es es' : List (D × V)) : obLe (some (.map es)) (.map es') = (es = es') := rfl
theorem s_okM (es : List (D × V)) : okO n (.map es) = okM n es := rfl
theorem s_okD : okO n .dead = True := rfl
theorem s_oM0 : okM n [] = True := rfl
theorem s_oM1 (e : D × V) (es : List (D × V)) : okM n (e :: es) = (ok0 n e.2 ∧ okM n es) := rfl
theorem e_r1W (σ : Nat → Nat) : ren σ (.row id off n sz) = .row (σ id) off n sz := rfl
theorem e_r0W (σ : Nat → Nat) : ren0 σ (.row id off n sz) = .row (σ id) off n sz := rfl
theorem e_r1'W (σ : Nat → Nat) : ren1 σ (.row id off n sz) = .row (σ id) off n sz := rfl
theorem e_r1M (σ : Nat → Nat) : ren σ (.mp id) = .mp (σ id) := rfl
theorem e_r0M (σ : Nat → Nat) : ren0 σ (.mp id) = .mp (σ id) := rfl
theorem e_r1'M (σ : Nat → Nat) : ren1 σ (.mp id) = .mp (σ id) := rfl
theorem e_r1P (σ : Nat → Nat) : ren σ (.ptr id off) = .ptr (σ id) off := rfl
theorem e_r0P (σ : Nat → Nat) : ren0 σ (.ptr id off) = .ptr (σ id) off := rfl
theorem e_r1'P (σ : Nat → Nat) : ren1 σ (.ptr id off) = .ptr (σ id) off := rfl
theorem e_r0K (σ : Nat → Nat) (v : Value) : ren0 σ (.k v) = .k v := rfl
theorem e_r1R (σ : Nat → Nat) : ren σ (.ro ds) = .ro ds := rfl
theorem e_r1Y (σ : Nat → Nat) : ren σ .any = .any := rfl
theorem e_r0Y (σ : Nat → Nat) : ren0 σ .any = .any := rfl
theorem e_ntP : noTup (.ptr id off) = True := rfl
theorem e_ntK (v : Value) : noTup (.k v) = True := rfl
theorem e_ntW : noTup (.row id off n sz) = True := rfl
theorem e_ntM : noTup (.mp id) = True := rfl
theorem e_ntp : notT (.ptr id off) = True := rfl
theorem e_ntk (v : Value) : notT (.k v) = True := rfl
theorem e_ntw : notT (.row id off n sz) = True := rfl
theorem e_ntm : notT (.mp id) = True := rfl
theorem e_nty : notT .any = True := rfl
theorem e_k0p : ok0 n (.ptr id off) = (id < n) := rfl
theorem e_k0k (v : Value) : ok0 n (.k v) = True := rfl
theorem e_k0w : ok0 n (.row id off m sz) = (id < n) := rfl
theorem e_k0m : ok0 n (.mp id) = (id < n) := rfl
theorem e_k1w : ok1 n (.row id off m sz) = (id < n) := rfl
theorem e_k1m : ok1 n (.mp id) = (id < n) := rfl
theorem e_kkw : ok n (.row id off m sz) = (id < n) := rfl
theorem e_kkm : ok n (.mp id) = (id < n) := rfl
theorem e_cW : V.cells (.row id off n sz) = [.row id off n sz] := rfl
theorem e_cM : V.cells (.mp id) = [.mp id] := rfl
theorem e_oW : V.one (.row id off n sz) = true := rfl
theorem e_oM : V.one (.mp id) = true := rfl
theorem e_flW : V.flat (.row id off n sz) m = (1 = m) := by simp [V.flat, V.cells, V.one]
theorem e_flM : V.flat (.mp id) m = (1 = m) := by simp [V.flat, V.cells, V.one]
theorem e_leW (id' off' n' sz' : Nat) : le (.row id off n sz) (.row id' off' n' sz') = (id = id' ∧ off = off' ∧ n = n' ∧ sz = sz') := by simp [le, le0, le1]
theorem e_le1W (id' off' n' sz' : Nat) : le1 (.row id off n sz) (.row id' off' n' sz') = (id = id' ∧ off = off' ∧ n = n' ∧ sz = sz') := by simp [le1]
theorem e_leM (id' : Nat) : le (.mp id) (.mp id') = (id = id') := by simp [le, le0, le1]
theorem e_le1M (id' : Nat) : le1 (.mp id) (.mp id') = (id = id') := by simp [le1]
theorem e_le1P (id' off' : Nat) : le1 (.ptr id off) (.ptr id' off') = (id = id' ∧ off = off') := by simp [le1]
theorem e_le0P (id' off' : Nat) : le0 (.ptr id off) (.ptr id' off') = (id = id' ∧ off = off') := by simp [le0, le1]
theorem e_le0K (v : Value) : le0 (.k v) (.k v) = True := by simp [le0, le1_refl]
theorem e_tkn (G : Gh) (pre : List Ob) : (tkOf G pre).nx = pre.length := rfl
theorem s_nd0 : ([] : List Nat).Nodup = True := by simp
theorem s_nd1 (r : List Nat) : (n :: r).Nodup = (¬ n ∈ r ∧ r.Nodup) := by simp
theorem s_mm0 : (n ∈ ([] : List Nat)) = False := by simp
theorem s_mm1 (r : List Nat) : (n ∈ m :: r) = (n = m ∨ n ∈ r) := by simp
theorem s_c0 : ((0 : Nat) : Int) = 0 := rfl
theorem s_c1 : ((1 : Nat) : Int) = 1 := rfl
theorem s_z0 : 0 + n = n := Nat.zero_add n
theorem s_a0 : n + 0 = n := rfl
theorem s_s0 : n - 0 = n := rfl
theorem s_nF : (¬ False) = True := by simp
theorem s_nT : (¬ True) = False := by simp
theorem s_oFF : (False ∨ False) = False := by simp
theorem s_oTl (P : Prop) : (True ∨ P) = True := by simp
theorem s_oTr (P : Prop) : (P ∨ True) = True := by simp
theorem s_oFl (P : Prop) : (False ∨ P) = P := by simp
theorem e_nvP : isNilV (.ptr id off) = false := rfl
theorem e_noD : nilOk (.d (.slice sz ds)) = True := rfl
theorem e_noO : nilOk (.own n sz ds) = True := rfl
theorem e_noF : nilOk (.full sz ds) = True := rfl
theorem e_nmD : nilMay (.d (.slice sz ds)) = (ds = []) := rfl
theorem e_nmO : nilMay (.own n sz ds) = (ds = []) := rfl
theorem e_nmF : nilMay (.full sz ds) = (ds = []) := rfl
theorem e_isl (t : TypeId) : isSl (some (.slice t)) = True := rfl
theorem e_ws0 (af : Array Edge) : wsL [] af n = True := by simp [wsL]
theorem e_ws1 (k : Nat) (ws : List (Nat × Nat)) (af : Array Edge) : wsL ((m, k) :: ws) af n = ((m = n → edgeB af k = true) ∧ wsL ws af n) := by simp [wsL]
theorem e_rd0 (ws : List (Nat × Nat)) (af : Array Edge) : rdOk ws af [] = True := by simp [rdOk]
theorem e_rd1 (ws : List (Nat × Nat)) (af : Array Edge) (r : List Nat) : rdOk ws af (n :: r) = (wsL ws af n ∧ rdOk ws af r) := by simp [rdOk]
theorem e_wr0 (S k : Nat) (ws rs : List (Nat × Nat)) (af : Array Edge) : wrOk n S k ws rs af h [] = True := by simp [wrOk]
theorem e_wr1 (S k : Nat) (ws rs : List (Nat × Nat)) (af : Array Edge) (r : List Nat) : wrOk n S k ws rs af h (m :: r) = ((wsL ws af m ∧ wsL rs af m ∧ m < frs n S (k + 1) ∧ (frs n S k ≤ m ∨ (h.get m).isSome = true)) ∧ wrOk n S k ws rs af h r) := by simp [wrOk]
theorem e_frs (S k : Nat) : frs n S k = n + k * S := rfl
theorem e_rvP : rdV (.ptr id off) = [id] := rfl
theorem e_rvR : rdV (.ro ds) = [] := rfl
theorem e_ks0 : keys [] = [] := rfl
theorem e_ks1 (o : Ob) (r : Hp) : keys ((n, o) :: r) = n :: keys r := rfl
theorem e_ed0 : edgeB #[] n = false := by simp [edgeB]
theorem e_ed1 (e : Edge) (r : List Edge) : edgeB (List.toArray (e :: r)) n = (Region.binds .any e && e.on == n || edgeB r.toArray n) := by simp [edgeB]
theorem e_bnD : Region.binds .any ⟨n, .data⟩ = true := rfl
theorem e_bnC : Region.binds .any ⟨n, .chain⟩ = true := rfl
theorem e_bnG : Region.binds .any ⟨n, .guard⟩ = true := rfl
theorem e_bnP : Region.binds .any ⟨n, .phase⟩ = true := rfl
theorem e_bnT (w : Departure) : Region.binds .any ⟨n, .textOnly w⟩ = false := rfl
theorem e_bnX (w : Departure) : Region.binds .any ⟨n, .gcOnly w⟩ = false := rfl
theorem e_on (g : Ground) : (Edge.mk n g).on = n := rfl
theorem s_rg0 : (([] : List Nat) = List.range 0) = True := by simp
theorem s_rg1 : ([0] = List.range 1) = True := by simp
theorem s_rg2 : ([0, 1] = List.range 2) = True := by simp [List.range_succ]
theorem s_rg3 : ([0, 1, 2] = List.range 3) = True := by simp [List.range_succ]
theorem s_rg4 : ([0, 1, 2, 3] = List.range 4) = True := by simp [List.range_succ]
theorem s_impT (p : Prop) : (True → p) = p := by simp
theorem s_impF (p : Prop) : (False → p) = True := by simp
theorem s_bt (a : Bool) : (true && a) = a := by simp
theorem s_bf (a : Bool) : (false && a) = false := by simp
theorem s_ot (a : Bool) : (true || a) = true := by simp
theorem s_of (a : Bool) : (false || a) = a := by simp
theorem e_add : intV .add q i j = .d (.int q (q.wrap (i + j))) := rfl
theorem e_sub : intV .sub q i j = .d (.int q (q.wrap (i - j))) := rfl
theorem e_mul : intV .mul q i j = .d (.int q (q.wrap (i * j))) := rfl
theorem e_quo : intV .quo q i j = .d (.int q (q.wrap (i.tdiv j))) := rfl
theorem e_rem : intV .rem q i j = .d (.int q (i.tmod j)) := rfl
theorem e_eql : intV .eql q i j = .d (.bool (i == j)) := rfl
theorem e_neq : intV .neq q i j = .d (.bool (i != j)) := rfl
theorem e_lss : intV .lss q i j = .d (.bool (decide (i < j))) := rfl
theorem e_leq : intV .leq q i j = .d (.bool (decide (i ≤ j))) := rfl
theorem e_gtr : intV .gtr q i j = .d (.bool (decide (j < i))) := rfl
theorem e_geq : intV .geq q i j = .d (.bool (decide (j ≤ i))) := rfl
theorem e_shl : intV .shl q i j = .d (.int q (ishl q i j)) := rfl
theorem e_shr : intV .shr q i j = .d (.int q (ishr q i j)) := rfl
theorem e_and : intV .and q i j = .d (.int q (iand q i j)) := rfl
theorem e_or : intV .or q i j = .d (.int q (ior q i j)) := rfl
theorem e_xor : intV .xor q i j = .d (.int q (ixor q i j)) := rfl
theorem e_anot : intV .andNot q i j = .d (.int q (ianot q i j)) := rfl
theorem o_anot : intOk .andNot j = True := rfl
theorem o_add : intOk .add j = True := rfl
theorem o_sub : intOk .sub j = True := rfl
theorem o_mul : intOk .mul j = True := rfl
theorem o_quo : intOk .quo j = (j ≠ 0) := rfl
theorem o_rem : intOk .rem j = (j ≠ 0) := rfl
theorem o_eql : intOk .eql j = True := rfl
theorem o_neq : intOk .neq j = True := rfl
theorem o_lss : intOk .lss j = True := rfl
theorem o_leq : intOk .leq j = True := rfl
theorem o_gtr : intOk .gtr j = True := rfl
theorem o_geq : intOk .geq j = True := rfl
theorem o_shl : intOk .shl j = (0 ≤ j) := rfl
theorem o_shr : intOk .shr j = (0 ≤ j) := rfl
theorem o_and : intOk .and j = True := rfl
theorem o_or : intOk .or j = True := rfl
theorem o_xor : intOk .xor j = True := rfl
theorem k_shl : sameK .shl q q' = True := rfl
theorem k_shr : sameK .shr q q' = True := rfl
theorem e_not : unV (.d (.bool b)) = .d (.bool (!b)) := rfl
theorem e_neg : unV (.d (.int q i)) = .d (.int q (q.wrap (0 - i))) := rfl
theorem e_notO : unOk .not (.d (.bool b)) = True := by simp [unOk]
theorem e_negO : unOk .neg (.d (.int q i)) = True := by simp [unOk]
theorem e_conv : convV (some (.int q')) (.d (.int q i)) = .d (.int q' (q'.wrap i)) := rfl
theorem e_convO : convOk (some (.int q')) (.d (.int q i)) = True := rfl
theorem e_slOD (lo hi : Option V) : sliceOk (some (g, sz)) (.d dd) lo hi = (isEls sz (.d dd) ∧ isBnd lo ∧ isBnd hi ∧ 0 ≤ (boundA 0 lo).getD 0 ∧ (boundA 0 lo).getD 0 ≤ (boundA (V.elsD sz (.d dd)).length hi).getD 0 ∧ (boundA (V.elsD sz (.d dd)).length hi).getD 0 ≤ ((V.elsD sz (.d dd)).length : Int)) := rfl
theorem e_slOO (lo hi : Option V) : sliceOk (some (g, sz)) (.own n m ds) lo hi = (isEls sz (.own n m ds) ∧ isBnd lo ∧ isBnd hi ∧ 0 ≤ (boundA 0 lo).getD 0 ∧ (boundA 0 lo).getD 0 ≤ (boundA (V.elsD sz (.own n m ds)).length hi).getD 0 ∧ (boundA (V.elsD sz (.own n m ds)).length hi).getD 0 ≤ ((V.elsD sz (.own n m ds)).length : Int)) := rfl
theorem e_slOF (lo hi : Option V) : sliceOk (some (g, sz)) (.full m ds) lo hi = (isEls sz (.full m ds) ∧ isBnd lo ∧ isBnd hi ∧ 0 ≤ (boundA 0 lo).getD 0 ∧ (boundA 0 lo).getD 0 ≤ (boundA (V.elsD sz (.full m ds)).length hi).getD 0 ∧ (boundA (V.elsD sz (.full m ds)).length hi).getD 0 ≤ ((V.elsD sz (.full m ds)).length : Int)) := rfl
theorem e_slOK (lo hi : Option V) : sliceOk (some (g, sz)) (.k (.slice none 0 0)) lo hi = (isEls sz (.k (.slice none 0 0)) ∧ isBnd lo ∧ isBnd hi ∧ 0 ≤ (boundA 0 lo).getD 0 ∧ (boundA 0 lo).getD 0 ≤ (boundA (V.elsD sz (.k (.slice none 0 0))).length hi).getD 0 ∧ (boundA (V.elsD sz (.k (.slice none 0 0))).length hi).getD 0 ≤ ((V.elsD sz (.k (.slice none 0 0))).length : Int)) := rfl
theorem e_slOW (lo hi : Option V) : sliceOk (some (g, m)) (.row id off n sz) lo hi = (m = sz ∧ isBnd lo ∧ isBnd hi ∧ 0 ≤ (boundA 0 lo).getD 0 ∧ (boundA 0 lo).getD 0 ≤ (boundA n hi).getD 0 ∧ (boundA n hi).getD 0 ≤ (n : Int)) := rfl
theorem e_slW (el : Option (Bool × Nat)) (lo hi : Option V) : sliceV el (.row id off n sz) lo hi = .row id (off + bnd 0 lo * sz) (bnd n hi - bnd 0 lo) sz := rfl
theorem e_bn0 : isBnd none = True := rfl
theorem e_bn1 : isBnd (some (.d (.int q i))) = True := rfl
theorem e_stO : storeO x n off (some (.cells l)) = (x.flat n ∧ off + n ≤ l.length) := rfl
theorem e_stH : storeHO h x id off (some (.cells l)) = (id, .cells (setAt l off x.cells)) :: h := rfl
theorem e_setAt (cs : List V) : setAt l off cs = l.take off ++ cs ++ l.drop (off + cs.length) := rfl
theorem e_cAgg : V.cells (.agg l) = l := rfl
theorem e_cD : V.cells (.d dd) = [.d dd] := rfl
theorem e_cK (v : Value) : V.cells (.k v) = [.k v] := rfl
theorem e_cP : V.cells (.ptr id off) = [.ptr id off] := rfl
theorem e_cO : V.cells (.own n sz ds) = [.own n sz ds] := rfl
theorem e_cF : V.cells (.full sz ds) = [.full sz ds] := rfl
theorem e_oD : V.one (.d dd) = dd.one := rfl
theorem e_oK (v : Value) : V.one (.k v) = v.oneCell' := rfl
theorem e_oP : V.one (.ptr id off) = true := rfl
theorem e_oO : V.one (.own n sz ds) = true := rfl
theorem e_oF : V.one (.full sz ds) = true := rfl
theorem e_dI : D.one (.int q i) = true := rfl
theorem e_dB : D.one (.bool b) = true := rfl
theorem e_dS (s : ByteArray) : D.one (.str s) = true := rfl
theorem e_dL : D.one (.slice sz ds) = true := rfl
theorem e_dcI : D.cells (.int q i) = [.int q i] := rfl
theorem e_dcB : D.cells (.bool b) = [.bool b] := rfl
theorem e_dcL : D.cells (.slice sz ds) = [.slice sz ds] := rfl
theorem e_dcA : D.cells (.agg ds) = ds := rfl
theorem e_zeroD (P : Program) (t : TypeId) : zeroD P t = (zeroV P t).getD [] := rfl
theorem e_plD (P : Program) (t : TypeId) : plD P t = (plOf P t).getD [] := rfl
theorem e_rowD (P : Program) (t : TypeId) : rowD P t = (rowOf P t).getD (0, 0) := rfl
theorem e_fill0 (pl : List (Nat × Nat)) : fillR pl l [] = l := rfl
theorem e_fill1 (pl : List (Nat × Nat)) (ps : List (Nat × V)) : fillR pl l ((n, x) :: ps) = (match pl[n]? with | some (off, _) => fillR pl (setAt l off x.cells) ps | none => l) := rfl
theorem e_fillO0 (pl : List (Nat × Nat)) : fillOk pl l [] = True := rfl
theorem e_fillO1 (pl : List (Nat × Nat)) (ps : List (Nat × V)) : fillOk pl l ((n, x) :: ps) = (match pl[n]? with | some (off, m) => x.flat m ∧ off + m ≤ l.length ∧ fillOk pl (setAt l off x.cells) ps | none => False) := rfl
theorem e_tD : V.toD (.d dd) = some dd := rfl
theorem e_tO : V.toD (.own n sz ds) = some (.slice sz ds) := rfl
theorem e_tF : V.toD (.full sz ds) = some (.slice sz ds) := rfl
theorem e_t1D : V.toD1 (.d dd) = some dd := rfl
theorem e_t1O : V.toD1 (.own n sz ds) = some (.slice sz ds) := rfl
theorem e_t1F : V.toD1 (.full sz ds) = some (.slice sz ds) := rfl
theorem e_sz0 : sizesOk sz [] = True := rfl
theorem e_sz1 : sizesOk sz (dd :: ds) = (dd.cells.length = sz ∧ sizesOk sz ds) := rfl
theorem e_r1D (σ : Nat → Nat) : ren σ (.d dd) = .d dd := rfl
theorem e_r1F (σ : Nat → Nat) : ren σ (.full sz ds) = .full sz ds := rfl
theorem e_r1O (σ : Nat → Nat) : ren σ (.own n sz ds) = .own (σ n) sz ds := rfl
theorem e_r1K (σ : Nat → Nat) (v : Value) : ren σ (.k v) = .k v := rfl
theorem e_r1A (σ : Nat → Nat) : ren σ (.agg l) = .agg (l.map (ren1 σ)) := rfl
theorem e_r1T (σ : Nat → Nat) : ren σ (.tup l) = .tup (l.map (ren0 σ)) := rfl
theorem e_r0A (σ : Nat → Nat) : ren0 σ (.agg l) = .agg (l.map (ren1 σ)) := rfl
theorem e_r0D (σ : Nat → Nat) : ren0 σ (.d dd) = .d dd := rfl
theorem e_r0O (σ : Nat → Nat) : ren0 σ (.own n sz ds) = .own (σ n) sz ds := rfl
theorem e_r0F (σ : Nat → Nat) : ren0 σ (.full sz ds) = .full sz ds := rfl
theorem e_r1'D (σ : Nat → Nat) : ren1 σ (.d dd) = .d dd := rfl
theorem e_r1'O (σ : Nat → Nat) : ren1 σ (.own n sz ds) = .own (σ n) sz ds := rfl
theorem e_r1'F (σ : Nat → Nat) : ren1 σ (.full sz ds) = .full sz ds := rfl
theorem e_r1'K (σ : Nat → Nat) (v : Value) : ren1 σ (.k v) = .k v := rfl
theorem e_tip0 : tipsOf n [] = [] := rfl
theorem e_tip1 (ts : List Nat) : tipsOf n (m :: ts) = (n, .tip m) :: tipsOf (n + 1) ts := rfl
theorem e_nt (h : ∀ l, x ≠ .tup l) : noTup x = True := by cases x <;> first | rfl | exact (h _ rfl).elim
theorem e_ntD : noTup (.d dd) = True := rfl
theorem e_ntA : noTup (.agg l) = True := rfl
theorem e_ntO : noTup (.own n sz ds) = True := rfl
theorem e_ntF : noTup (.full sz ds) = True := rfl
theorem e_ntT : noTup (.tup l) = notTs l := by
  apply propext
  induction l with
  | nil => simp [noTup, notTs]
  | cons x r ih =>
    have key : notT x ↔ ∀ l', x ≠ .tup l' := by cases x <;> simp [notT]
    constructor
    · intro hh
      refine ⟨key.2 (hh x (by simp)), ih.1 fun y hy => hh y (by simp [hy])⟩
    · rintro ⟨h1, h2⟩ y hy
      rcases List.mem_cons.1 hy with rfl | hy
      · exact key.1 h1
      · exact ih.2 h2 y hy
theorem e_nt0 : notTs [] = True := rfl
theorem e_nt1 : notTs (x :: l) = (notT x ∧ notTs l) := rfl
theorem e_ntd : notT (.d dd) = True := rfl
theorem e_nta : notT (.agg l) = True := rfl
theorem e_nto : notT (.own n sz ds) = True := rfl
theorem e_ntf : notT (.full sz ds) = True := rfl
theorem e_k0 : ok0 n (.d dd) = True := rfl
theorem e_k0a : ok0 n (.agg l) = okL n l := rfl
theorem e_k0o : ok0 n (.own m sz ds) = (m < n) := rfl
theorem e_k0f : ok0 n (.full sz ds) = True := rfl
theorem e_k1 : ok1 n (.d dd) = True := rfl
theorem e_k1o : ok1 n (.own m sz ds) = (m < n) := rfl
theorem e_k1f : ok1 n (.full sz ds) = True := rfl
theorem e_k1k (v : Value) : ok1 n (.k v) = True := rfl
theorem e_k1p : ok1 n (.ptr id off) = (id < n) := rfl
end


section
variable {α β : Type} (f : α → β) (a b : α) (l l' : List α) (n : Nat) (p : α → Prop) (q : Prop)
theorem s_map1 : (a :: l).map f = f a :: l.map f := rfl
theorem s_map0 : ([] : List α).map f = [] := rfl
theorem s_get1 : (a :: l)[n + 1]? = l[n]? := rfl
theorem s_get0 : (a :: l)[0]? = some a := rfl
theorem s_getN : ([] : List α)[n]? = none := rfl
theorem s_getD : (some a).getD b = a := rfl
theorem s_getDn : (none : Option α).getD b = b := rfl
theorem s_take1 : (a :: l).take (n + 1) = a :: l.take n := rfl
theorem s_take0 : l.take 0 = [] := rfl
theorem s_takeN : ([] : List α).take n = [] := by simp
theorem s_drop1 : (a :: l).drop (n + 1) = l.drop n := rfl
theorem s_drop0 : l.drop 0 = l := rfl
theorem s_dropN : ([] : List α).drop n = [] := by simp
theorem s_app1 : (a :: l) ++ l' = a :: (l ++ l') := rfl
theorem s_app0 : [] ++ l' = l' := rfl
theorem s_appN : l ++ [] = l := by simp
theorem s_len1 : (a :: l).length = l.length + 1 := rfl
theorem s_len0 : ([] : List α).length = 0 := rfl
theorem s_lenA : (l ++ l').length = l.length + l'.length := List.length_append
theorem s_some : (some a).isSome = true := rfl
theorem s_bind (g : α → Option β) : (some a).bind g = g a := rfl
theorem s_omap : (some a).map f = some (f a) := rfl
theorem s_omapN : (none : Option α).map f = none := rfl
theorem s_all1 : (∀ x ∈ a :: l, p x) = (p a ∧ ∀ x ∈ l, p x) := by simp
theorem s_all0 : (∀ x ∈ ([] : List α), p x) = True := by simp
theorem s_ta : (True ∧ q) = q := true_and q
theorem s_at : (q ∧ True) = q := and_true q
theorem s_tt : (true = true) = True := by simp
theorem s_ft : (false = true) = False := by simp
theorem s_tf : (true = false) = False := by simp
theorem s_ff : (false = false) = True := by simp
theorem s_dT (inst : Decidable True) : @decide True inst = true := by simp
theorem s_dF (inst : Decidable False) : @decide False inst = false := by simp
theorem s_nt : (!true) = false := rfl
theorem s_nf : (!false) = true := rfl
theorem s_ct : (bif true then a else b) = a := rfl
theorem s_cf : (bif false then a else b) = b := rfl
theorem s_toNat : ((n : Nat) : Int).toNat = n := Int.toNat_natCast n
theorem s_tn0 : Int.toNat 0 = 0 := rfl
theorem s_nn : (0 ≤ ((n : Nat) : Int)) = True := by simp
theorem s_lt (m : Nat) : (((n : Nat) : Int) < (m : Int)) = (n < m) := by simp
theorem s_le (m : Nat) : (((n : Nat) : Int) ≤ (m : Int)) = (n ≤ m) := by simp
theorem s_init1 (k : Nat) (x : V) (r : List V) : initSl k (x :: r) = (k, x) :: initSl (k + 1) r := rfl
theorem s_init0 (k : Nat) : initSl k [] = [] := rfl
theorem s_ret1 (x : V) : retV [x] = x := rfl
theorem s_ret2 (x y : V) (r : List V) : retV (x :: y :: r) = .tup (x :: y :: r) := rfl
theorem s_ret0 : retV [] = .tup [] := rfl
theorem s_resT (P : Program) (s : St) (t : Nat) : resV P s (.tmp t) = getS s.sl t := rfl
theorem s_resC (P : Program) (s : St) (t : Nat) (ty : TypeId) : resV P s (.cell t ty) = loadV (tyOf P ty) s.h (getS s.sl t) := rfl
theorem s_roT (P : Program) (s : St) (t : Nat) : resOk P s (.tmp t) = True := rfl
theorem s_roC (P : Program) (s : St) (t : Nat) (ty : TypeId) : resOk P s (.cell t ty) = loadOk (tyOf P ty) s.h (getS s.sl t) := rfl
theorem s_ao1 (P : Program) (s : St) (r : ResultVar) (rs : List ResultVar) : allOk P s (r :: rs) = (resOk P s r ∧ allOk P s rs) := rfl
theorem s_ao0 (P : Program) (s : St) : allOk P s [] = True := rfl
theorem s_stle (n0 : Nat) (s s' : St) : St.le n0 s s' = ((n0 ≤ s'.nx ∧ s'.nx ≤ s.nx) ∧ slLe s.sl s'.nx s'.sl ∧ hpLe s.h s'.nx s'.h) := rfl
theorem s_sl1 (sl : List (Nat × V)) (nx t : Nat) (x : V) (r : List (Nat × V)) : slLe sl nx ((t, x) :: r) = ((le (getS sl t) x ∧ ok nx x) ∧ slLe sl nx r) := rfl
theorem s_sl0 (sl : List (Nat × V)) (nx : Nat) : slLe sl nx [] = True := rfl
theorem s_hp1 (h : Hp) (nx i : Nat) (o : Ob) (r : Hp) : hpLe h nx ((i, o) :: r) = ((i < nx ∧ obLe (h.get i) o ∧ okO nx o) ∧ hpLe h nx r) := rfl
theorem s_hp0 (h : Hp) (nx : Nat) : hpLe h nx [] = True := rfl
theorem s_obT (n m : Nat) : obLe (some (.tip n)) (.tip m) = (n = m) := rfl
theorem s_obC (l l' : List V) : obLe (some (.cells l)) (.cells l') = leL l l' := rfl
theorem s_okT (nx n : Nat) : okO nx (.tip n) = True := rfl
theorem s_okC (nx : Nat) (l : List V) : okO nx (.cells l) = okL nx l := rfl
theorem s_thN (K : St → Prop) (Q : Exit → St → Prop) (s : St) : thenA K Q .normal s = K s := rfl
theorem s_thR (K : St → Prop) (Q : Exit → St → Prop) (s : St) : thenA K Q .ret s = Q .ret s := rfl
theorem s_thE (K : St → Prop) (Q : Exit → St → Prop) (i : Nat) (s : St) : thenA K Q (.exit i) s = Q (.exit i) s := rfl
theorem s_blN (i : Nat) (Q : Exit → St → Prop) (s : St) : blockA i Q .normal s = Q .normal s := rfl
theorem s_blR (i : Nat) (Q : Exit → St → Prop) (s : St) : blockA i Q .ret s = Q .ret s := rfl
theorem s_blE (i : Nat) (Q : Exit → St → Prop) (s : St) : blockA i Q (.exit i) s = Q .normal s := by simp [blockA]
theorem s_blM (i j : Nat) (Q : Exit → St → Prop) (s : St) (h : (j = i) = False) : blockA i Q (.exit j) s = Q (.exit j) s := by simp [blockA, h]
end

theorem A_guard_split {P : Program} {N : Nat} {tb : List (Option Nat)} {d : Option Nat} {op : Op} {ty : TypeId} {p : String} {af : Array Edge} {r : List Oper} {K : St → Prop} {s : St} {j : Nat} {b t : Bool} (ht : guardV s tb j = .d (.bool t))
    (h1 : t = true → AOps P N tb (⟨d, op, ty, p, af, some (j, b)⟩ :: r) K s) (h2 : t = false → AOps P N tb (⟨d, op, ty, p, af, some (j, b)⟩ :: r) K s) : AOps P N tb (⟨d, op, ty, p, af, some (j, b)⟩ :: r) K s := by
  cases t <;> simp_all


end Go.Bv
