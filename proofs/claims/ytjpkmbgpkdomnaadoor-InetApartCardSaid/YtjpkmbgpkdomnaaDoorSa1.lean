/- hearthref04.Same. -/
import Derived.Test.YtjpkmbgpkdomnaaDoorRd1
namespace Go.Proofs.YtjpkmbgpkdomnaaDoor
open Go.RowKit

/-- 'string(b)', its run. -/
theorem run_b2s {P : Program} {w : World} {src dst e : TypeId} (hs : P.underlying src = some (.slice e)) (he : P.underlying e = some (.int .u8)) (hd : P.underlying dst = some .string)
    {v : Value} {l : List UInt8} (hb : Bytes w v l) : (convert src dst v).run P w = .ok (str l) w := by
  obtain ⟨ad, c, rfl, h1, h2, h3⟩ := hb
  rw [run_convert_bytes_string w src dst e _ _ _ hs he hd]
  rcases l with _ | ⟨x, l⟩
  · cases ad with
    | none => simp [Conv.bytesToString, str]; rfl
    | some ad =>
      have := run_bytesToString (P := P) w ad 0 c [] (by have := run_loadCells_list (P := P) w ad [] (by intro j v h; simp at h); simpa using this)
      exact this.trans rfl
  · obtain ⟨b, of, rfl, hc⟩ := h3 (by simp)
    have := run_bytesToString (P := P) w ⟨b, of, none⟩ (x :: l).length c ((x :: l).map (fun b => (b.toNat : Int))) (by
      have := run_loadCells_list (P := P) w ⟨b, of, none⟩ (((x :: l).map (fun b => (b.toNat : Int))).map (Value.int .u8)) (by
        intro j v hj
        simp only [List.getElem?_map, Option.map_eq_some_iff] at hj
        obtain ⟨n, ⟨y, hy, rfl⟩, rfl⟩ := hj
        have hjl : j < (x :: l).length := (List.getElem?_eq_some_iff.1 hy).1
        rw [Go.WideShapes.add_plain, hc j hjl, List.getD_eq_getElem?_getD, hy]
        rfl)
      simpa using this)
    rw [this, foldl_push_byteCells]
    simp [str]
def Pk.same (p q : Pk) : Bool := p.ttl == q.ttl && p.proto == q.proto && p.id == q.id && p.src == q.src && p.dst == q.dst && p.body == q.body
theorem pk_same {p q : Pk} : p.same q = true ↔ p = q := by
  obtain ⟨a1, a2, a3, a4, a5, a6⟩ := p
  obtain ⟨b1, b2, b3, b4, b5, b6⟩ := q
  simp [Pk.same, and_assoc]
set_option maxRecDepth 20000 in
set_option maxHeartbeats 2000000 in
theorem same_any (p q : Pk) (va vb : Value) (w : World) (ha : Bytes w va p.body) (hb : Bytes w vb q.body) :
    Calls Tryd.prog 39 #[p.val va, q.val vb] w fun e w' => e = .returned (.bool (p.same q)) ∧ w.grownBy w' none := by
  obtain ⟨a1, a2, a3, a4, a5, la⟩ := p
  obtain ⟨b1, b2, b3, b4, b5, lb⟩ := q
  dsimp only [Pk.val] at *
  have HA := hid ha
  have HB := hid hb
  obtain ⟨xa, ca, rfl, -, -, -⟩ := ha
  obtain ⟨xb, cb, rfl, -, -, -⟩ := hb
  by_cases e1 : a1 = b1
  · subst e1
    by_cases e2 : a2 = b2
    · subst e2
      by_cases e3 : a3 = b3
      · subst e3
        by_cases e4 : a4 = b4
        · subst e4
          by_cases e5 : a5 = b5
          · subst e5
            by_cases e6 : la = lb
            · have R : Pk.same ⟨a1, a2, a3, a4, a5, la⟩ ⟨a1, a2, a3, a4, a5, lb⟩ = true := by simp [Pk.same, e6]
              rw [R]
              have E6 := hid e6
              clear R e6
              go_enter Tryd.func39, Tryd.ntmps39
              go_wp2_with (first | (rw [run_b2s (l := la) Tryd.underlying45 Tryd.underlying5 Tryd.underlying9 (v := .slice xa la.length ca) (HA.out.grown (by (repeat (first | exact gr_refl _ _ | assumption | refine gr_drew ?_ | refine gr_drewN _ ?_ | refine gr_alloc ?_ _ | refine gr_set ?_ | refine gr_set_new ?_ (by first | omega | (simp; omega))))))]; unfold str; go_simp) | (rw [run_b2s (l := lb) Tryd.underlying45 Tryd.underlying5 Tryd.underlying9 (v := .slice xb lb.length cb) (HB.out.grown (by (repeat (first | exact gr_refl _ _ | assumption | refine gr_drew ?_ | refine gr_drewN _ ?_ | refine gr_alloc ?_ _ | refine gr_set ?_ | refine gr_set_new ?_ (by first | omega | (simp; omega))))))]; unfold str; go_simp))
              go_ret
              exact ⟨by simp [E6.out], by (repeat (first | exact gr_refl _ _ | assumption | refine gr_drew ?_ | refine gr_drewN _ ?_ | refine gr_alloc ?_ _ | refine gr_set ?_ | refine gr_set_new ?_ (by first | omega | (simp; omega))))⟩
            · have R : Pk.same ⟨a1, a2, a3, a4, a5, la⟩ ⟨a1, a2, a3, a4, a5, lb⟩ = false := by simp [Pk.same, e6]
              rw [R]
              have E6 := hid e6
              clear R e6
              go_enter Tryd.func39, Tryd.ntmps39
              go_wp2_with (first | (rw [run_b2s (l := la) Tryd.underlying45 Tryd.underlying5 Tryd.underlying9 (v := .slice xa la.length ca) (HA.out.grown (by (repeat (first | exact gr_refl _ _ | assumption | refine gr_drew ?_ | refine gr_drewN _ ?_ | refine gr_alloc ?_ _ | refine gr_set ?_ | refine gr_set_new ?_ (by first | omega | (simp; omega))))))]; unfold str; go_simp) | (rw [run_b2s (l := lb) Tryd.underlying45 Tryd.underlying5 Tryd.underlying9 (v := .slice xb lb.length cb) (HB.out.grown (by (repeat (first | exact gr_refl _ _ | assumption | refine gr_drew ?_ | refine gr_drewN _ ?_ | refine gr_alloc ?_ _ | refine gr_set ?_ | refine gr_set_new ?_ (by first | omega | (simp; omega))))))]; unfold str; go_simp))
              go_ret
              exact ⟨by simp [E6.out], by (repeat (first | exact gr_refl _ _ | assumption | refine gr_drew ?_ | refine gr_drewN _ ?_ | refine gr_alloc ?_ _ | refine gr_set ?_ | refine gr_set_new ?_ (by first | omega | (simp; omega))))⟩
          · have t1 : ((a5 : Int) == (b5 : Int)) = false := by simp; omega
            have R : Pk.same ⟨a1, a2, a3, a4, a5, la⟩ ⟨a1, a2, a3, a4, b5, lb⟩ = false := by simp [Pk.same, e5]
            rw [R]
            clear R e5
            go_enter Tryd.func39, Tryd.ntmps39
            go_wp2
            go_ret
            exact ⟨rfl, by (repeat (first | exact gr_refl _ _ | assumption | refine gr_drew ?_ | refine gr_drewN _ ?_ | refine gr_alloc ?_ _ | refine gr_set ?_ | refine gr_set_new ?_ (by first | omega | (simp; omega))))⟩
        · have t1 : ((a4 : Int) == (b4 : Int)) = false := by simp; omega
          have R : Pk.same ⟨a1, a2, a3, a4, a5, la⟩ ⟨a1, a2, a3, b4, b5, lb⟩ = false := by simp [Pk.same, e4]
          rw [R]
          clear R e4
          go_enter Tryd.func39, Tryd.ntmps39
          go_wp2
          go_ret
          exact ⟨rfl, by (repeat (first | exact gr_refl _ _ | assumption | refine gr_drew ?_ | refine gr_drewN _ ?_ | refine gr_alloc ?_ _ | refine gr_set ?_ | refine gr_set_new ?_ (by first | omega | (simp; omega))))⟩
      · have t1 : ((a3 : Int) == (b3 : Int)) = false := by simp; omega
        have R : Pk.same ⟨a1, a2, a3, a4, a5, la⟩ ⟨a1, a2, b3, b4, b5, lb⟩ = false := by simp [Pk.same, e3]
        rw [R]
        clear R e3
        go_enter Tryd.func39, Tryd.ntmps39
        go_wp2
        go_ret
        exact ⟨rfl, by (repeat (first | exact gr_refl _ _ | assumption | refine gr_drew ?_ | refine gr_drewN _ ?_ | refine gr_alloc ?_ _ | refine gr_set ?_ | refine gr_set_new ?_ (by first | omega | (simp; omega))))⟩
    · have t1 : ((a2 : Int) == (b2 : Int)) = false := by simp; omega
      have R : Pk.same ⟨a1, a2, a3, a4, a5, la⟩ ⟨a1, b2, b3, b4, b5, lb⟩ = false := by simp [Pk.same, e2]
      rw [R]
      clear R e2
      go_enter Tryd.func39, Tryd.ntmps39
      go_wp2
      go_ret
      exact ⟨rfl, by (repeat (first | exact gr_refl _ _ | assumption | refine gr_drew ?_ | refine gr_drewN _ ?_ | refine gr_alloc ?_ _ | refine gr_set ?_ | refine gr_set_new ?_ (by first | omega | (simp; omega))))⟩
  · have t1 : ((a1 : Int) == (b1 : Int)) = false := by simp; omega
    have R : Pk.same ⟨a1, a2, a3, a4, a5, la⟩ ⟨b1, b2, b3, b4, b5, lb⟩ = false := by simp [Pk.same, e1]
    rw [R]
    clear R e1
    go_enter Tryd.func39, Tryd.ntmps39
    go_wp2
    go_ret
    exact ⟨rfl, by (repeat (first | exact gr_refl _ _ | assumption | refine gr_drew ?_ | refine gr_drewN _ ?_ | refine gr_alloc ?_ _ | refine gr_set ?_ | refine gr_set_new ?_ (by first | omega | (simp; omega))))⟩
end Go.Proofs.YtjpkmbgpkdomnaaDoor
