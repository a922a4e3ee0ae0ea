/-
  Part of a machine over pure data and objects that is sound for the model: what it says of a Go function holds of every call of that function. Conditions: those in each theorem. It speaks of any program.
-/
import Derived.Test.YtjaignojekmfgaaBvCall2
namespace Go.Bv
open Go.RowKit

section
variable {P : Program} {T : Tk} {G0 G : Gh} {w0 w : World} {N : Nat} {s : St} {a : Act} {h : Hp} {nx : Nat}

/-- The zero of a slice's elements. -/
def elZ (P : Program) (t : TypeId) : Option (List V) := match P.underlying t with
  | some (.slice e) => zeroV P e
  | _ => none
def zrow (n : Nat) : List V → List V
  | [z] => List.replicate n z
  | zs => (List.replicate n zs).flatten
theorem zrow_get (n : Nat) (zs : List V) (j : Nat) : (zrow n zs)[j]? = if j < n * zs.length then zs[j % zs.length]? else none := by
  have main : ∀ n j, ((List.replicate n zs).flatten)[j]? = if j < n * zs.length then zs[j % zs.length]? else none := by
    intro n
    induction n with
    | zero => intro j; simp
    | succ n ih =>
      intro j
      rw [List.replicate_succ, List.flatten_cons, List.getElem?_append, Nat.succ_mul]
      split
      · rename_i hj
        rw [if_pos (by omega), Nat.mod_eq_of_lt hj]
      · rename_i hj
        rw [ih]
        have e : j % zs.length = (j - zs.length) % zs.length := by rw [Nat.mod_eq_sub_mod (by omega)]
        rw [e]
        by_cases h2 : j < n * zs.length + zs.length
        · rw [if_pos h2, if_pos (by omega)]
        · rw [if_neg h2, if_neg (by omega)]
  unfold zrow
  split
  · rename_i z
    rw [List.getElem?_replicate]
    simp [Nat.mod_one]
  · exact main n j
theorem zrow_length (n : Nat) (zs : List V) : (zrow n zs).length = n * zs.length := by
  unfold zrow
  split
  · simp
  · simp
theorem zrow_mem {n : Nat} {zs : List V} {x : V} (hx : x ∈ zrow n zs) : x ∈ zs := by
  unfold zrow at hx
  split at hx
  · simp at hx; simp [hx.2]
  · simp only [List.mem_flatten, List.mem_replicate] at hx
    obtain ⟨l, ⟨_, rfl⟩, h⟩ := hx
    exact h

/-- make([]T, n, c). -/
theorem R.make (hR : R T G0 w0 N s a G w) {t : TypeId} {sz bt : Nat} (hrow : rowOf P t = some (sz, bt)) {zs : List V} (hz : elZ P t = some zs) {n c : Nat} {q q' : IntKind} (hnc : n ≤ c) (hcb : c * bt ≤ 140737488355328) (hcm : c ≤ maxLen) (k nx' : Nat)
    (hk : (k = s.nx ∧ nx' = s.nx + 1) ∨ (k < s.nx ∧ nx' = s.nx ∧ G.loc k = none ∧ G.tloc k = none ∧ s.h.get k = none)) :
    ∃ v w' G', (Instr.makeSlice t (.int q n) (.int q' c)).run P w = .ok v w' ∧ R T G0 w0 N ⟨s.sl, (k, .cells (zrow n zs)) :: s.h, nx'⟩ a G' w' ∧ RepV G' w' ((k, .cells (zrow n zs)) :: s.h) nx' v (.row k 0 n sz) ∧
      ∀ i, i ≠ k → i < s.nx → G'.loc i = G.loc i ∧ G'.tloc i = G.tloc i := by
  obtain ⟨e, i, z, hu, hi, hz', hzs, hsz0, hisz, hibt⟩ := rowOf_spec hrow
  have hze : zeroV P e = some zs := by unfold elZ at hz; rw [hu] at hz; exact hz
  obtain ⟨i2, z2, hi2, hz2, hrep⟩ := zeroV_rep (G := G) (w := w) (h := s.h) (nx := s.nx) hze
  rw [hi] at hi2; injection hi2 with hi2; subst hi2
  rw [hz'] at hz2; injection hz2 with hz2; subst hz2
  obtain ⟨r1, r2, r3⟩ := hrep
  have hzl : zs.length = sz := by rw [← r1]; simpa using hzs
  let cs : List Value := (List.range (c * sz)).map fun j => z.cells[j % z.cells.size]!
  have hcsl : cs.length = c * sz := by simp [cs]
  have hcsg : ∀ (j : Nat) (v : Value), cs[j]? = some v → z.cells.toList[j % sz]? = some v := by
    intro j v hv
    simp only [cs, List.getElem?_map, Option.map_eq_some_iff] at hv
    obtain ⟨j', hj', rfl⟩ := hv
    have : j < c * sz := by have := (List.getElem?_eq_some_iff.1 hj').1; simpa using this
    rw [List.getElem?_range this] at hj'
    injection hj' with hj'
    subst hj'
    have hlt : j % sz < z.cells.size := by rw [hzs]; exact Nat.mod_lt _ hsz0
    rw [hzs]
    simp [getElem!_pos, hlt]
  have hrun : (Instr.makeSlice t (.int q n) (.int q' c)).run P w = .ok (.slice (some ⟨w.heap.size, 0, none⟩) n c) (w.alloc (.cells cs.toArray e)) := by
    have hcm' : (c : Int) ≤ 9223372036854775807 := by simp only [maxLen] at hcm; omega
    have w1 : IntKind.i64.wrap (n : Int) = n := IntWalk.i64_in _ ⟨by omega, by omega⟩
    have w2 : IntKind.i64.wrap (c : Int) = c := IntWalk.i64_in _ ⟨by omega, by omega⟩
    have hb : ((i.bytes : Int) * (c : Int)) ≤ 140737488355328 := by
      have : bt * c ≤ 140737488355328 := by rw [Nat.mul_comm]; exact hcb
      rw [hibt, ← Int.natCast_mul]
      omega
    have hb' : ((i.bytes : Int) * (n : Int)) ≤ 140737488355328 := by
      refine Int.le_trans ?_ hb
      exact Int.mul_le_mul_of_nonneg_left (by omega) (by omega)
    have hroom : ¬ (c * i.bytes > roomBytes) := by rw [hibt]; unfold roomBytes; omega
    have hzr : ∀ w, (zeroValue e).run P w = .ok z w := fun w => by simp [zeroValue, typeInfo, hi, hz']
    have t1 : (decide ((c : Int) < 0) || decide ((i.bytes : Int) * (c : Int) > 2 ^ 48)) = false := by simp; omega
    simp only [Instr.makeSlice, Sem.run_bind, run_underlying hu, Result.andThen_ok, asInt, asIntOf, Sem.run_pure, typeInfo, run_program, hi, w1, w2, Int.toNat_natCast]
    rw [if_neg (by rw [t1]; simp; omega)]
    simp only [askRoom, if_neg hroom, Sem.run_bind, Sem.run_pure, Result.andThen_ok, sizeOf, typeInfo, run_program, hi, hisz]
    by_cases h0 : c * sz = 0
    · have hcs0 : cs = [] := List.eq_nil_of_length_eq_zero (by omega)
      rw [if_pos h0]
      simp only [Sem.run_pure, Result.andThen_ok, Go.newRow, Go.newObj, Sem.run_bind, Sem.run, h0, hcs0]
      rw [show (Array.map (fun x => (#[] : Array Value)[x % (#[] : Array Value).size]!) (Array.range 0)) = #[] from by simp]
      rfl
    · rw [if_neg h0]
      simp only [Sem.run_bind, hzr, Result.andThen_ok, Sem.run_pure, Go.newRow, Go.newObj, Sem.run]
      have earr : (Array.range (c * sz)).map (fun j => z.cells[j % z.cells.size]!) = cs.toArray := by
        apply Array.ext'
        simp [cs]
      rw [earr]
      rfl
  have hw := hR.wr
  let G' : Gh := ⟨fun i => if i = k then some w.heap.size else G.loc i, fun i => if i = k then none else G.tloc i, G.lim⟩
  have hll : ∀ i, i ≠ k → G'.loc i = G.loc i ∧ G'.tloc i = G.tloc i := fun i hi => by simp [G', hi]
  have hge : ∀ i, i ≠ k → Hp.get ((k, .cells (zrow n zs)) :: s.h) i = s.h.get i := fun i hi => by simp [Hp.get, hi]
  have hknx : k < nx' := by rcases hk with h | h <;> omega
  have hnn : s.nx ≤ nx' := by rcases hk with h | h <;> omega
  have he : Ext G w s.h s.nx G' (w.alloc (.cells cs.toArray e)) ((k, .cells (zrow n zs)) :: s.h) nx' := by
    refine ⟨mono_alloc hw.lim _ (fun _ _ => rfl), hnn, fun id b hi hb => ?_, fun tok t' ht h1 => ?_, fun b n hb => by rw [csz_same (Below.heap_alloc w _ b (csz_lt hb))]; exact hb⟩
    · by_cases hik : id = k
      · subst hik
        rcases hk with ⟨h1, _⟩ | ⟨_, _, h1, _⟩
        · omega
        · rw [h1] at hb; cases hb
      · rw [(hll id hik).1]; exact hb
    · by_cases hik : tok = k
      · subst hik; simp [Hp.get] at h1
      · rw [hge tok hik] at h1
        refine ⟨t', h1, Nat.le_refl _, fun _ b hb => ?_⟩
        have := (hw.here tok b ht (.inr hb)).1
        exact ⟨by rw [(hll tok hik).2]; exact hb, Below.heap_alloc w _ b (by omega), rfl⟩
  have key : ∀ i b, i < nx' → (G'.loc i = some b ∨ G'.tloc i = some b) → (i = k ∧ b = w.heap.size) ∨ (i < s.nx ∧ b < w.heap.size ∧ i ≠ k ∧ (G.loc i = some b ∨ G.tloc i = some b)) := by
    intro i b hi hb
    by_cases h0 : i = k
    · subst h0; simp [G'] at hb; exact .inl ⟨rfl, hb.symm⟩
    · rw [(hll i h0).1, (hll i h0).2] at hb
      have hi' : i < s.nx := by rcases hk with h | h <;> omega
      exact .inr ⟨hi', (hw.here i b hi' hb).1, h0, hb⟩
  refine ⟨_, _, G', hrun, ⟨hR.fr.alloc hw.lim _ G' (fun _ _ => rfl), ⟨?_, mob_alloc hw _ he (fun id es hg => by simp only [Hp.get] at hg; split at hg; (· cases hg); exact hg), ?_, ?_, ?_, ?_⟩, hR.df, hR.sz, fun t => (hR.sl t).ext he, hR.ex.ext he⟩, ?_, fun i hi _ => hll i hi⟩
  · intro id l' hl'
    simp only [Hp.get] at hl'
    split at hl'
    · rename_i hid
      subst hid
      injection hl' with hl'
      injection hl' with hl'
      subst hl'
      refine ⟨w.heap.size, e, cs, by simp [G'], heap_alloc_new w _, hw.lim _ (Nat.le_refl _), ?_, fun x hx => r2 x (zrow_mem hx), fun j v x hv hx => ?_⟩
      · rw [zrow_length, hcsl, hzl]; exact Nat.mul_le_mul_right _ hnc
      · rw [zrow_get] at hx
        split at hx
        · rw [hzl] at hx
          exact (r3 (j % sz) v x (hcsg j v hv) hx).ext he
        · cases hx
    · rename_i hne
      obtain ⟨b, e', cs', h1, h2, h3, h4, h5, h6⟩ := hw.obj id l' hl'
      have hid := hw.hid id _ hl'
      have hb := (hw.here id b hid (.inl h1)).1
      exact ⟨b, e', cs', by rw [(hll id hne).1]; exact h1, by rw [Below.heap_alloc w _ b hb]; exact h2, h3, h4, h5, fun j v x hv hx => (h6 j v x hv hx).ext he⟩
  · intro id b hid hb
    have hs := hR.fr.size
    rcases key id b hid hb with ⟨h1, h2⟩ | ⟨h1, h2, _, h3⟩
    · subst h2; exact ⟨by simp, .inl hs⟩
    · exact ⟨by simp; omega, (hw.here id b h1 h3).2⟩
  · intro i j b hi hj hbi hbj li lj
    rcases key i b hi hbi with ⟨h1, h2⟩ | ⟨h1, h2, n1, h3⟩ <;> rcases key j b hj hbj with ⟨h4, h5⟩ | ⟨h4, h5, n2, h6⟩
    · omega
    · omega
    · omega
    · exact hw.inj i j b h1 h4 h3 h6 (live_new n1 li) (live_new n2 lj)
  · intro id ob hg
    show id < nx'
    simp only [Hp.get] at hg
    split at hg
    · rename_i h; subst h; exact hknx
    · have := hw.hid id ob hg; omega
  · intro b hb
    exact hw.lim b (by simp at hb; omega)
  · refine .row k 0 n sz w.heap.size 0 c (c * sz) hknx (by simp [G']) (fun _ => rfl) hnc hcm ?_ (by omega)
    rw [csz_of (heap_alloc_new w _)]
    simp [hcsl]

/-- A row that is written no more: its cells are read-only from now on, it may grow. -/
theorem R.freeze (hR : R T G0 w0 N s a G w) {id n sz : Nat} {l : List D} (hg : s.h.get id = some (.cells ((l.flatMap D.cells).map .d))) (hsz : ∀ d ∈ l, d.cells.length = sz ∧ ∀ c ∈ d.cells, c.one = true) (hn : l.length = n) :
    ∃ G', R T G0 w0 N ⟨s.sl, (s.nx, .tip n) :: (id, .dead) :: s.h, s.nx + 1⟩ a G' w ∧ Ext G w s.h s.nx G' w ((s.nx, .tip n) :: (id, .dead) :: s.h) (s.nx + 1) ∧
      ∀ v, RepV G' w ((s.nx, .tip n) :: (id, .dead) :: s.h) (s.nx + 1) v (.row id 0 n sz) → RepV G' w ((s.nx, .tip n) :: (id, .dead) :: s.h) (s.nx + 1) v (.own s.nx sz l) := by
  have hw := hR.wr
  have hid : id < s.nx := hw.hid _ _ hg
  have hlv := live_cells hg
  obtain ⟨b, e, cs, h1, h2, h3, h4, h5, h6⟩ := hw.obj id _ hg
  have hfl := flat_length hsz
  have hbs := (hw.here id b hid (.inl h1))
  let G' : Gh := ⟨fun i => if i = s.nx then none else G.loc i, fun i => if i = s.nx then some b else G.tloc i, fun b' => if b' = b then n * sz else G.lim b'⟩
  have hlo : ∀ i, i ≠ s.nx → G'.loc i = G.loc i ∧ G'.tloc i = G.tloc i := fun i hi => by simp [G', hi]
  have hm : ∀ b', b' ≠ b → G'.lim b' = G.lim b' := fun b' hb => by simp [G', hb]
  have hmono : Mono G.lim w G'.lim w := by
    intro b' o v k1 k2
    have : b' ≠ b := by rintro rfl; omega
    exact ⟨by rw [hm b' this]; exact k1, k2⟩
  have hget : ∀ i, i ≠ s.nx → i ≠ id → Hp.get ((s.nx, .tip n) :: (id, .dead) :: s.h) i = s.h.get i := fun i k1 k2 => by simp [Hp.get, k1, k2]
  have hgid : Hp.get ((s.nx, .tip n) :: (id, .dead) :: s.h) id = some .dead := by simp [Hp.get, show id ≠ s.nx by omega]
  have old : ∀ i o, i < s.nx → o ≠ Ob.dead → Hp.get ((s.nx, .tip n) :: (id, .dead) :: s.h) i = some o → i ≠ id ∧ s.h.get i = some o := by
    intro i o hi ho hgo
    have : i ≠ id := by rintro rfl; rw [hgid] at hgo; injection hgo with hgo; exact ho hgo.symm
    exact ⟨this, by rw [hget i (by omega) this] at hgo; exact hgo⟩
  have apart : ∀ i b', i < s.nx → i ≠ id → live s.h i → (G.loc i = some b' ∨ G.tloc i = some b') → b' ≠ b := by
    rintro i b' hi hne hl hb rfl
    exact hne (hw.inj i id b' hi hid hb (.inl h1) hl hlv)
  have he : Ext G w s.h s.nx G' w ((s.nx, .tip n) :: (id, .dead) :: s.h) (s.nx + 1) := by
    refine ⟨hmono, by omega, fun i b' hi hb => by rw [(hlo i (by omega)).1]; exact hb, fun tok t' ht k1 => ?_, fun _ _ h => h⟩
    obtain ⟨k2, k3⟩ := old tok _ ht (by simp) k1
    refine ⟨t', k3, Nat.le_refl _, fun _ b' hb => ⟨by rw [(hlo tok (by omega)).2]; exact hb, rfl, ?_⟩⟩
    exact hm b' (apart tok b' ht k2 (live_tip k3) (.inr hb))
  refine ⟨G', ⟨⟨hR.fr.os, hR.fr.tape, hR.fr.output, hR.fr.size, fun b' hb hT => ?_, hR.fr.mono.trans hmono⟩, ⟨?_, hw.mob.ext he (fun i es hgo => ?_) hw.hid (fun _ _ _ _ _ => rfl), ?_, ?_, ?_, ?_⟩, hR.df, hR.sz, fun t => (hR.sl t).ext he, hR.ex.ext he⟩, he, ?_⟩
  · obtain ⟨q1, q2⟩ := hR.fr.same b' hb hT
    have : b' ≠ b := by
      rintro rfl
      rcases hbs.2 with h | h
      · omega
      · exact hT h
    exact ⟨q1, by rw [hm b' this]; exact q2⟩
  · intro i l' hgo
    have hi : i ≠ s.nx := by rintro rfl; simp [Hp.get] at hgo
    have hi' : i < s.nx := by
      have hgo' := hgo
      simp only [Hp.get, if_neg hi] at hgo'
      split at hgo'
      · cases hgo'
      · exact hw.hid _ _ hgo'
    obtain ⟨k2, k3⟩ := old i _ hi' (by simp) hgo
    obtain ⟨b', e', cs', q1, q2, q3, q4, q5, q6⟩ := hw.obj i l' k3
    exact ⟨b', e', cs', by rw [(hlo i hi).1]; exact q1, q2, by rw [hm b' (apart i b' hi' k2 (live_cells k3) (.inl q1))]; exact q3, q4, q5, fun j v x hv hx => (q6 j v x hv hx).ext he⟩
  · have hi : i ≠ s.nx := by rintro rfl; simp [Hp.get] at hgo
    simp only [Hp.get, if_neg hi] at hgo
    split at hgo
    · cases hgo
    · exact hgo
  · intro i b' hi hb
    have hi : i < s.nx + 1 := hi
    by_cases hin : i = s.nx
    · subst hin
      simp [G'] at hb
      subst hb
      exact hbs
    · rw [(hlo i hin).1, (hlo i hin).2] at hb
      exact hw.here i b' (by omega) hb
  · intro i j b' hi hj hbi hbj li lj
    have hi : i < s.nx + 1 := hi
    have hj : j < s.nx + 1 := hj
    have olive : ∀ i, i < s.nx → live ((s.nx, .tip n) :: (id, .dead) :: s.h) i → i ≠ id ∧ live s.h i := by
      intro i hi l
      obtain ⟨o, ho, hd⟩ := live_of l
      obtain ⟨k2, k3⟩ := old i o hi hd ho
      exact ⟨k2, live_eq (hget i (by omega) k2) l⟩
    by_cases hin : i = s.nx <;> by_cases hjn : j = s.nx
    · omega
    · subst hin
      simp [G'] at hbi
      rw [(hlo j hjn).1, (hlo j hjn).2] at hbj
      obtain ⟨q1, q2⟩ := olive j (by omega) lj
      exact (apart j b' (by omega) q1 q2 hbj hbi.symm).elim
    · subst hjn
      simp [G'] at hbj
      rw [(hlo i hin).1, (hlo i hin).2] at hbi
      obtain ⟨q1, q2⟩ := olive i (by omega) li
      exact (apart i b' (by omega) q1 q2 hbi hbj.symm).elim
    · rw [(hlo j hjn).1, (hlo j hjn).2] at hbj
      rw [(hlo i hin).1, (hlo i hin).2] at hbi
      exact hw.inj i j b' (by omega) (by omega) hbi hbj (olive i (by omega) li).2 (olive j (by omega) lj).2
  · intro i ob hgo
    show i < s.nx + 1
    simp only [Hp.get] at hgo
    split at hgo
    · omega
    · split at hgo
      · omega
      · have := hw.hid _ _ hgo; omega
  · intro b' hb
    have : b' ≠ b := by omega
    rw [hm b' this]
    exact hw.lim b' hb
  · intro v hv
    cases hv with | row _ _ _ _ b2 o cap m hid2 hl2 ho hc hmx hcz hs =>
    obtain rfl : b2 = b := by rw [(hlo id (by omega)).1, h1] at hl2; injection hl2 with hl2; exact hl2.symm
    rw [csz_of h2] at hcz
    injection hcz with hcz
    have hcl : (l.flatMap D.cells).length = n * sz := by rw [hfl, hn]
    rw [List.length_map, hcl] at h4
    have hrepd : RepD G'.lim w (.slice (some ⟨b2, o, none⟩) l.length cap) (.slice sz l) := by
      refine .slice b2 o cap sz l (cs.take (n * sz)) (by omega) hmx hsz (by rw [List.length_take, hcl]; omega) (fun j u hu => ?_) (fun j u c hu hc' => ?_)
      · rw [List.getElem?_take] at hu
        split at hu
        · rename_i hj
          have hcap : cap ≠ 0 := by
            rintro rfl
            have : n = 0 := by omega
            subst this
            omega
          rw [ho hcap, Nat.zero_add]
          refine ⟨by simp [G']; omega, ?_⟩
          rw [cell_of_row w b2 j cs.toArray e _ h2]
          simpa using hu
        · cases hu
      · rw [List.getElem?_take] at hu
        split at hu
        · have := h6 j u (.d c) hu (by rw [List.getElem?_map, hc']; rfl)
          cases this with | d _ _ hd => exact hd.mono hmono
        · cases hu
    rw [hn] at hrepd
    refine .own _ _ _ _ hrepd (by omega) fun t' ht' => ?_
    simp only [Hp.get, if_true, Option.some.injEq, Ob.tip.injEq] at ht'
    refine ⟨by omega, fun _ => ?_⟩
    rw [hn]
    by_cases hcap : cap = n
    · exact .inl hcap
    · refine .inr ⟨b2, o, cs.toArray, e, rfl, by simp [G'], h2, ?_, ?_⟩
      · simp only [G', if_true]; rw [ho (by omega)]; omega
      · rw [hcz, ho (by omega)]; exact hs

/-- copy(row, slice). -/
theorem R.copy (hR : R T G0 w0 N s a G w) {t t' ty : TypeId} {sz bt : Nat} (hrow : rowOf P t = some (sz, bt)) {id off len : Nat} {y : V} {vx vy : Value} (hx : RepV G w s.h s.nx vx (.row id off len sz)) (hy : RepV G w s.h s.nx vy y)
    {l2 : List D} (hl2 : y.els sz = some l2) {l : List V} (hg : s.h.get id = some (.cells l)) (hfit : off + len * sz ≤ l.length) :
    ∃ w', (Builtin.copy_ #[t, t'] ty #[vx, vy]).run P w = .ok (goInt (min l2.length len : Nat)) w' ∧ R T G0 w0 N ⟨s.sl, (id, .cells (setAt l off (((l2.take (min l2.length len)).flatMap D.cells).map .d))) :: s.h, s.nx⟩ a G w' := by
  obtain ⟨e, i, z, hu, hi, hz', hzs, hsz0, hisz, hibt⟩ := rowOf_spec hrow
  have hd2 := els_rep hl2 hy
  obtain ⟨A2, cap2, vs2, hvy, hcap2, hmax2, hsz2, hlen2, hno2, hc2, hr2⟩ := hd2.flat
  have hv2 : vs2.length = l2.length * sz := by rw [hlen2, flat_length hsz2]
  generalize hn : min l2.length len = n
  have hnl : n ≤ l2.length := by omega
  have hnn : n ≤ len := by omega
  have hns : n * sz ≤ l2.length * sz := Nat.mul_le_mul_right _ hnl
  have hns' : n * sz ≤ len * sz := Nat.mul_le_mul_right _ hnn
  have hflat : (l2.take n).flatMap D.cells = (l2.flatMap D.cells).take (n * sz) := flatMap_take hsz2 n
  have hf : (Builtin.firstCells i.size n vy).run P w = .ok (vs2.take (n * sz)).toArray w := by
    rw [hisz]
    subst hvy
    cases A2 with
    | none =>
      obtain ⟨rfl, _⟩ := hno2 rfl
      have : n = 0 := by simpa using hnl
      subst this
      simp [Builtin.firstCells]
    | some ad =>
      obtain ⟨b2, off2, rfl, h2⟩ := hc2 ad rfl
      refine run_firstCells_some w sz n ⟨b2, off2, none⟩ l2.length cap2 (vs2.take (n * sz)) (by rw [List.length_take, hv2]; omega) (fun j u hu => ?_)
      rw [List.getElem?_take] at hu
      split at hu
      · rw [add_mk]; exact (h2 j u hu).2
      · cases hu
  cases hx with | row _ _ _ _ b o cap m hid hl ho hc hmx hcz hs =>
  have hone2 := flat_one hlen2 hr2
  have main : ∀ o', (n ≠ 0 → o' = off) → ∃ w', (storeCells ⟨b, o', none⟩ (vs2.take (n * sz))).run P w = .ok () w' ∧ R T G0 w0 N ⟨s.sl, (id, .cells (setAt l off (((l2.take n).flatMap D.cells).map .d))) :: s.h, s.nx⟩ a G w' := by
    intro o' ho'
    by_cases hn0 : n = 0
    · subst hn0
      refine ⟨w, by simp [storeCells], ?_⟩
      have e0 : setAt l off (((l2.take 0).flatMap D.cells).map .d) = l := by simp [setAt]
      rw [e0]
      exact hR.same' hg
    · rw [ho' hn0]
      refine hR.storeAt (P := P) (off := off) hg hl ?_ (fun u hu => hone2 u (List.mem_of_mem_take hu)) (fun j u c hu hc' => ?_) (fun c hc' => ?_) ?_
      · rw [List.length_map, hflat, List.length_take, List.length_take, hlen2]
      · rw [List.getElem?_map, hflat, Option.map_eq_some_iff] at hc'
        obtain ⟨d, hd, rfl⟩ := hc'
        rw [List.getElem?_take] at hu hd
        split at hu
        · rename_i hj
          rw [if_pos hj] at hd
          exact .d _ _ (hr2 j u d hu hd)
        · cases hu
      · obtain ⟨d, hd, rfl⟩ := List.mem_map.1 hc'
        obtain ⟨x, hx, hdx⟩ := List.mem_flatMap.1 hd
        exact (hsz2 x (List.mem_of_mem_take hx)).2 d hdx
      · rw [List.length_map, hflat, List.length_take, ← hlen2, hv2]
        omega
  obtain ⟨w', hrun, hR'⟩ := main o (fun h => ho (by omega))
  refine ⟨w', ?_, hR'⟩
  subst hvy
  have hmn : Nat.min l2.length len = n := hn
  simp only [Builtin.copy_, Sem.run_bind, run_underlying hu, Result.andThen_ok, Builtin.lenOf, Sem.run_pure, sizeOf, typeInfo, run_program, hi, hmn, hf, List.getElem?_toArray, List.getElem?_cons_zero, List.getElem?_cons_succ]
  simp [hrun]

end
end Go.Bv
